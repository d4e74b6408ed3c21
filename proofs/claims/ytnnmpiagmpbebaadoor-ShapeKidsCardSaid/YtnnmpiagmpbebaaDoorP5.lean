/- A part of the proof of All schemas in a value that a name may have are Bools and Objects; a name that is no keyword may have none, whatever the value; a list of schemas may be allOf's just if it may be anyOf's and oneOf's.: Ln3 Ln4 Ln5 Ln6 Ln7 Ln8 Lq1 Lk1 Lk2 Lk3 Lp4 Lp5 Lp6 Lp7 Lk4 Lk5 Lg44 Lk6 K1 K2. -/
import Derived.Test.YtnnmpiagmpbebaaDoorP4
import Derived.Test.YtnnmpiagmpbebaaDoorP3
import Derived.Test.YtnnmpiagmpbebaaDoorP2
import Derived.Lib.ItoaNum
import Derived.Lib.Atoi
import Derived.MapKept
set_option linter.unusedVariables false
set_option linter.unusedSimpArgs false
set_option linter.unusedSectionVars false
namespace Lg
open Go
/-! ### What a number's text comes to -/
def ba (l : BL) : ByteArray := ⟨l.toArray⟩
theorem ba_toList (l : BL) : (ba l).data.toList = l := by simp [ba]
theorem ba_size (l : BL) : (ba l).size = l.length := by
  have : (ba l).data.toList.length = (ba l).size := Array.length_toList
  rw [← this, ba_toList]
theorem ba_ext {a b : ByteArray} (h : a.data.toList = b.data.toList) : a = b := by
  cases a; cases b; congr 1; exact Array.ext' h
theorem ba_eta (d : ByteArray) : d = ba d.data.toList := ba_ext (by rw [ba_toList])
theorem u8b_byte (b : UInt8) : u8b (b.toNat : Int) = b := by
  unfold u8b; simp
def satL (x : Int) (l : BL) : Int := l.foldl (fun x b => min (10 * x + (b.toNat : Int) - 48) 1000000) x
def valL (x : Int) (l : BL) : Int := l.foldl (fun x b => 10 * x + (b.toNat : Int) - 48) x
def aD (l : BL) : Prop := ∀ b ∈ l, isD b = true
theorem aD_cons {b : UInt8} {l : BL} (h : aD (b :: l)) : (48 ≤ b.toNat ∧ b.toNat ≤ 57) ∧ aD l := ⟨(isD_iff b).1 (h b (List.mem_cons_self ..)), fun c hc => h c (List.mem_cons_of_mem _ hc)⟩
theorem satL_eq : ∀ (l : BL) (v : Int), aD l → 0 ≤ v → satL (min v 1000000) l = min (valL v l) 1000000
  | [], v, _, _ => rfl
  | b :: l, v, h, hv => by
    have hb := aD_cons h
    show satL (min (10 * (min v 1000000) + (b.toNat : Int) - 48) 1000000) l = min (valL (10 * v + (b.toNat : Int) - 48) l) 1000000
    rw [← satL_eq l _ hb.2 (by omega)]
    congr 1; omega
theorem valL_ge : ∀ (l : BL) (v : Int), aD l → 0 ≤ v → v * 10 ^ l.length ≤ valL v l
  | [], v, _, _ => by simp [valL]
  | b :: l, v, h, hv => by
    have hb := aD_cons h
    show v * 10 ^ (l.length + 1) ≤ valL (10 * v + (b.toNat : Int) - 48) l
    refine Int.le_trans ?_ (valL_ge l _ hb.2 (by omega))
    rw [Int.pow_succ', ← Int.mul_assoc]
    exact Int.mul_le_mul_of_nonneg_right (by omega) (Int.pow_nonneg (by decide))
theorem valL_zeros (l : BL) : valL 0 (l.dropWhile (· == 48)) = valL 0 l := by
  induction l with
  | nil => rfl
  | cons b l ih =>
    by_cases h : b = 48
    · subst h
      simp only [List.dropWhile_cons, beq_self_eq_true, if_true, ih]
      rfl
    · have : (b == 48) = false := by simpa using h
      simp [List.dropWhile_cons, this]
/-- small's size. -/
def smallN (x : BL) : Int := if (x.dropWhile (· == 48)).length < 15 then valL 0 (x.dropWhile (· == 48)) else 1000000000000000
theorem aD_dw {l : BL} (h : aD l) : aD (l.dropWhile (· == 48)) := fun b hb => h b ((List.dropWhile_sublist _).mem hb)
theorem smallN_sat {x : BL} (h : aD x) : min (smallN x) 1000000 = satL 0 x ∧ 0 ≤ smallN x := by
  have h0 : satL 0 x = min (valL 0 x) 1000000 := satL_eq x 0 h (Int.le_refl _)
  rw [h0, ← valL_zeros x]
  have hd := aD_dw h
  have hge := valL_ge _ 0 hd (Int.le_refl _)
  rw [Int.zero_mul] at hge
  unfold smallN
  split
  · exact ⟨rfl, hge⟩
  · rename_i hl
    refine ⟨?_, by decide⟩
    cases hx : x.dropWhile (· == 48) with
    | nil => rw [hx] at hl; simp at hl
    | cons c r =>
      rw [hx] at hl hd
      have hc := aD_cons hd
      have hc48 : ¬ c = 48 := by
        intro e
        have := List.head_dropWhile_not (p := (· == (48 : UInt8))) (l := x) (by rw [hx]; simp)
        simp [hx, e] at this
      have hc2 : ¬ c.toNat = 48 := fun e => hc48 (UInt8.toNat_inj.1 e)
      have hv : valL 0 (c :: r) = valL (10 * 0 + (c.toNat : Int) - 48) r := rfl
      have h1 := valL_ge r (10 * 0 + (c.toNat : Int) - 48) hc.2 (by omega)
      have h2 : (10 : Int) ^ 14 ≤ 10 ^ r.length := by
        have := Nat.pow_le_pow_right (n := 10) (by decide) (show 14 ≤ r.length by simp at hl; omega)
        have h5 : ((10 ^ 14 : Nat) : Int) ≤ ((10 ^ r.length : Nat) : Int) := Int.ofNat_le.2 this
        rw [Int.natCast_pow, Int.natCast_pow] at h5
        exact h5
      have h3 : (1 : Int) * 10 ^ r.length ≤ (10 * 0 + (c.toNat : Int) - 48) * 10 ^ r.length := Int.mul_le_mul_of_nonneg_right (by omega) (Int.pow_nonneg (by decide))
      have h4 : (10 : Int) ^ 14 = 100000000000000 := by decide
      rw [hv]; omega
/-! #### The loop over the text -/
abbrev nfold (l : BL) (t : NSt) : NSt := l.foldl (fun t b => nstep b.toNat t) t
theorem fold_dig : ∀ (l : BL) (ng dn pt : Bool) (d : ByteArray) (b x : Int), aD l → nfold l ⟨ng, dn, pt, false, d, b, x⟩ = ⟨ng, dn, pt, false, ba (d.data.toList ++ l), b + (if pt = true then (l.length : Int) else 0), x⟩
  | [], ng, dn, pt, d, b, x, _ => by
    have : ba (d.data.toList ++ []) = d := by rw [List.append_nil]; exact (ba_eta d).symm
    rw [this]; cases pt <;> simp
  | c :: l, ng, dn, pt, d, b, x, h => by
    have hc := aD_cons h
    have h1 : nstep c.toNat ⟨ng, dn, pt, false, d, b, x⟩ = ⟨ng, dn, pt, false, d ++ ⟨#[c]⟩, if pt = true then b + 1 else b, x⟩ := by
      simp only [nstep, Bool.false_eq_true, if_false, u8b_byte]
      rw [if_neg (by omega), if_neg (by omega), if_neg (by omega)]
    show nfold l (nstep c.toNat _) = _
    rw [h1, fold_dig l ng dn pt _ _ x hc.2]
    congr 1
    · rw [show (d ++ ⟨#[c]⟩ : ByteArray).data.toList = d.data.toList ++ [c] by simp]; simp
    · cases pt <;> simp <;> omega
theorem fold_exp : ∀ (l : BL) (ng dn pt : Bool) (d : ByteArray) (b x : Int), aD l → nfold l ⟨ng, dn, pt, true, d, b, x⟩ = ⟨ng, dn, pt, true, d, b, satL x l⟩
  | [], ng, dn, pt, d, b, x, _ => rfl
  | c :: l, ng, dn, pt, d, b, x, h => by
    have hc := aD_cons h
    have h1 : nstep c.toNat ⟨ng, dn, pt, true, d, b, x⟩ = ⟨ng, dn, pt, true, d, b, min (10 * x + (c.toNat : Int) - 48) 1000000⟩ := by
      simp only [nstep, if_true]
      rw [if_neg (by omega), if_pos hc.1]
    show nfold l (nstep c.toNat _) = _
    rw [h1, fold_exp l ng dn pt d b _ hc.2]; rfl
theorem aD_of_len {l : BL} (h : (l.takeWhile isD).length = l.length) : aD l := by
  have h1 : l.takeWhile isD = l := by
    have := List.takeWhile_append_dropWhile (p := isD) (l := l)
    rw [dw_nil.2 h, List.append_nil] at this; exact this
  intro b hb
  rw [← h1] at hb
  exact List.all_eq_true.1 (List.all_takeWhile (p := isD) (l := l)) b hb
theorem aD_tw (l : BL) : aD (l.takeWhile isD) := fun b hb => List.all_eq_true.1 (List.all_takeWhile (p := isD) (l := l)) b hb
def hd45 : BL → Bool
  | [] => false
  | b :: _ => b == 45
theorem fold_pow {r : BL} (h : (pExp r).2 = true) (ng pt : Bool) (d : ByteArray) (b : Int) : ∃ pw, nfold r ⟨ng, false, pt, false, d, b, 0⟩ = ⟨ng, hd45 (pExp r).1, pt, pw, d, b, satL 0 (strip 45 (pExp r).1)⟩ ∧ aD (strip 45 (pExp r).1) ∧ (pExp r).1 ≠ [] := by
  cases r with
  | nil => exact ⟨false, rfl, fun b hb => by simp [pExp, strip] at hb; subst hb; rfl, by simp [pExp]⟩
  | cons e q =>
    simp only [pExp, Bool.and_eq_true, Bool.or_eq_true, decide_eq_true_eq, Bool.not_eq_true', Bool.and_eq_false_iff, decide_eq_false_iff_not] at h
    obtain ⟨he, hne, hall, hpl⟩ := h
    have hX := aD_of_len hall
    refine ⟨true, ?_, hX, ?_⟩
    · have h1 : nstep e.toNat ⟨ng, false, pt, false, d, b, 0⟩ = ⟨ng, false, pt, true, d, b, 0⟩ := by
        simp only [nstep, Bool.false_eq_true, if_false]
        rw [if_neg (by omega), if_neg (by omega), if_pos he]
      show nfold q (nstep e.toNat _) = _
      rw [h1]
      simp only [pExp]
      cases q with
      | nil => simp [strip] at hne
      | cons c q2 =>
        by_cases h43 : c.toNat = 43
        · rw [strip_eq h43] at hne hX hpl ⊢
          have hc : nstep c.toNat ⟨ng, false, pt, true, d, b, 0⟩ = ⟨ng, false, pt, true, d, b, 0⟩ := by
            simp only [nstep, if_true]; rw [if_neg (by omega), if_neg (by omega)]
          show nfold q2 (nstep c.toNat _) = _
          have hq : strip 45 q2 = q2 := by
            rcases hpl with h | h
            · exfalso; apply h; intro e; have := congrArg List.length e; simp at this
            · simpa using h
          rw [hq] at hX ⊢
          rw [hc, fold_exp q2 _ _ _ _ _ _ hX]
          congr 1
          cases q2 with
          | nil => rfl
          | cons f q3 =>
            have := aD_cons hX
            have : ¬ f = 45 := fun e => by subst e; simp at this
            simp [hd45, this]
        · rw [strip_ne h43] at hne hX hpl ⊢
          by_cases h45 : c.toNat = 45
          · rw [strip_eq h45] at hX ⊢
            have hc45 : c = 45 := UInt8.toNat_inj.1 h45
            have hc : nstep c.toNat ⟨ng, false, pt, true, d, b, 0⟩ = ⟨ng, true, pt, true, d, b, 0⟩ := by
              simp only [nstep, if_true]; rw [if_pos h45, if_neg (by omega)]
            show nfold q2 (nstep c.toNat _) = _
            rw [hc, fold_exp q2 _ _ _ _ _ _ hX]
            simp [hd45, hc45]
          · rw [strip_ne h45] at hX ⊢
            rw [fold_exp _ _ _ _ _ _ _ hX]
            have : ¬ c = 45 := fun e => h45 (by rw [e]; rfl)
            simp [hd45, this]
    · simp only [pExp]
      intro e
      rw [e] at hne; simp [strip] at hne
end Lg
namespace Lg
open Go
/-! ### Zeros cut off -/
def cutL (l : BL) : BL := l.dropWhile (· == 48)
def cutR (l : BL) : BL := (l.reverse.dropWhile (· == 48)).reverse
theorem dropWhile_drop' (p : UInt8 → Bool) (l : BL) : l.dropWhile p = l.drop (l.takeWhile p).length := by
  induction l with
  | nil => rfl
  | cons b r ih =>
    by_cases h : p b = true
    · simp [List.dropWhile_cons, List.takeWhile_cons, h, ih]
    · simp [List.dropWhile_cons, List.takeWhile_cons, h]
theorem fz_list (d : ByteArray) (i : Nat) : fz d i = i + ((d.data.toList.drop i).takeWhile (· == 48)).length := by
  by_cases h : i < d.size ∧ (bat d i).toNat = 48
  · have h1 : (bat d i == 48) = true := by simpa using UInt8.toNat_inj.1 h.2
    rw [fz_yes h.1 h.2, bat_list h.1, List.takeWhile_cons, if_pos h1, List.length_cons, fz_list d (i + 1)]; omega
  · rw [fz_no h]
    by_cases h1 : i < d.size
    · have h2 : ¬ (bat d i == 48) = true := fun e => h ⟨h1, by rw [show bat d i = 48 by simpa using e]; rfl⟩
      rw [bat_list h1, List.takeWhile_cons, if_neg h2]; rfl
    · rw [drop_end (by omega)]; rfl
termination_by d.size - i
theorem cutR_snoc (l : BL) (c : UInt8) : cutR (l ++ [c]) = if c = 48 then cutR l else l ++ [c] := by
  unfold cutR
  rw [List.reverse_append]
  by_cases h : c = 48
  · simp [h]
  · have : (c == 48) = false := by simpa using h
    simp [List.dropWhile_cons, this, h]
theorem take_snoc {l : BL} {k : Nat} (h : k < l.length) : l.take (k + 1) = l.take k ++ [l.getD k 0] := by
  rw [List.take_add_one, List.getD_eq_getElem?_getD, List.getElem?_eq_getElem h]; rfl
theorem lz_list (d : ByteArray) (f : Nat) : ∀ l : Nat, f ≤ l → l ≤ d.size → lz d f l = f + (cutR ((d.data.toList.take l).drop f)).length
  | 0, h, _ => by
    have : f = 0 := by omega
    subst this; simp [lz, cutR]
  | l + 1, h, hl => by
    have hlen : d.data.toList.length = d.size := Array.length_toList
    rw [lz]
    by_cases hf : f = l + 1
    · subst hf
      rw [if_neg (by omega)]
      have : (d.data.toList.take (l + 1)).drop (l + 1) = [] := List.drop_eq_nil_of_le (by rw [List.length_take]; omega)
      rw [this]; rfl
    · have ht : (d.data.toList.take (l + 1)).drop f = (d.data.toList.take l).drop f ++ [bat d l] := by
        rw [take_snoc (by omega), List.drop_append_of_le_length (by rw [List.length_take]; omega)]; rfl
      rw [ht, cutR_snoc]
      by_cases hb : (bat d l).toNat = 48
      · rw [if_pos ⟨by omega, hb⟩, if_pos (UInt8.toNat_inj.1 hb), lz_list d f l (by omega) (by omega)]
      · rw [if_neg (fun h => hb h.2), if_neg (fun e => hb (by rw [e]; rfl))]
        simp only [List.length_append, List.length_drop, List.length_take, List.length_cons, List.length_nil]; omega
theorem cutR_len (l : BL) : (cutR l).length ≤ l.length := by
  unfold cutR
  have := (List.dropWhile_sublist (l := l.reverse) (· == (48 : UInt8))).length_le
  simpa using this
theorem cutR_pre (l : BL) : cutR l = l.take (cutR l).length := by
  have h := List.takeWhile_append_dropWhile (p := (· == (48 : UInt8))) (l := l.reverse)
  have h2 : l = cutR l ++ (l.reverse.takeWhile (· == 48)).reverse := by
    unfold cutR
    rw [← List.reverse_append, h, List.reverse_reverse]
  have h3 := congrArg (List.take (cutR l).length) h2
  rw [List.take_left' rfl] at h3
  exact h3.symm
theorem cutR_nil {l : BL} (h : ∀ b ∈ l.head?, b ≠ 48) : cutR l = [] ↔ l = [] := by
  constructor
  · intro e
    cases l with
    | nil => rfl
    | cons b r =>
      exfalso
      have hb := h b rfl
      have : b ∈ (b :: r).reverse.dropWhile (· == 48) := by
        have h1 := List.takeWhile_append_dropWhile (p := (· == (48 : UInt8))) (l := (b :: r).reverse)
        have h2 : b ∈ (b :: r).reverse := by simp
        rw [← h1] at h2
        rcases List.mem_append.1 h2 with h3 | h3
        · have := List.all_eq_true.1 (List.all_takeWhile (p := (· == (48 : UInt8))) (l := (b :: r).reverse)) b h3
          simp at this; exact absurd this hb
        · exact h3
      unfold cutR at e
      rw [List.reverse_eq_nil_iff] at e
      rw [e] at this; simp at this
  · rintro rfl; rfl
theorem cutR_last {l : BL} (h : cutR l ≠ []) : (cutR l).getLast h ≠ 48 := by
  unfold cutR at h ⊢
  rw [List.getLast_reverse]
  have := List.head_dropWhile_not (p := (· == (48 : UInt8))) (l := l.reverse) (fun e => h (by rw [e]; rfl))
  simpa using this
theorem cutL_head (l : BL) : ∀ b ∈ (cutL l).head?, b ≠ 48 := fun b hb => by
  unfold cutL at hb
  have := List.head?_dropWhile_not (p := (· == (48 : UInt8))) l
  rw [Option.mem_def.1 hb] at this
  simpa using this
theorem cutR_head {l : BL} (h : cutR l ≠ []) : (cutR l).head? = l.head? := by
  rw [cutR_pre]
  cases l with
  | nil => simp
  | cons b r =>
    have : 0 < (cutR (b :: r)).length := List.length_pos_iff.2 h
    cases hk : (cutR (b :: r)).length with
    | zero => omega
    | succ k => rfl
/-- The program's number of a text. -/
def pNum (l : BL) : JNum × Int :=
  if (pParts (strip 45 l)).2.2.2 = false then ({}, 1) else
  if cutL ((pParts (strip 45 l)).1 ++ (pParts (strip 45 l)).2.1) = [] then ({}, 0) else
  if 60 < (cutR (cutL ((pParts (strip 45 l)).1 ++ (pParts (strip 45 l)).2.1))).length ∨
     1000 < (if hd45 (pParts (strip 45 l)).2.2.1 = true then -smallN (strip 45 (pParts (strip 45 l)).2.2.1) else smallN (strip 45 (pParts (strip 45 l)).2.2.1)) - (pParts (strip 45 l)).2.1.length + (cutL ((pParts (strip 45 l)).1 ++ (pParts (strip 45 l)).2.1)).length - (cutR (cutL ((pParts (strip 45 l)).1 ++ (pParts (strip 45 l)).2.1))).length ∨
     (if hd45 (pParts (strip 45 l)).2.2.1 = true then -smallN (strip 45 (pParts (strip 45 l)).2.2.1) else smallN (strip 45 (pParts (strip 45 l)).2.2.1)) - (pParts (strip 45 l)).2.1.length + (cutL ((pParts (strip 45 l)).1 ++ (pParts (strip 45 l)).2.1)).length - (cutR (cutL ((pParts (strip 45 l)).1 ++ (pParts (strip 45 l)).2.1))).length < -1000 then ({}, 5) else
  (⟨hd45 l, ba (cutR (cutL ((pParts (strip 45 l)).1 ++ (pParts (strip 45 l)).2.1))),
    (if hd45 (pParts (strip 45 l)).2.2.1 = true then -smallN (strip 45 (pParts (strip 45 l)).2.2.1) else smallN (strip 45 (pParts (strip 45 l)).2.2.1)) - (pParts (strip 45 l)).2.1.length + (cutL ((pParts (strip 45 l)).1 ++ (pParts (strip 45 l)).2.1)).length - (cutR (cutL ((pParts (strip 45 l)).1 ++ (pParts (strip 45 l)).2.1))).length⟩, 0)
/-- What the loop over a number's text has gathered. -/
theorem gathered {m : BL} (h : (pParts m).2.2.2 = true) (ng : Bool) : ∃ pt pw, nfold m ⟨ng, false, false, false, e0, 0, 0⟩ = ⟨ng, hd45 (pParts m).2.2.1, pt, pw, ba ((pParts m).1 ++ (pParts m).2.1), ((pParts m).2.1.length : Int), satL 0 (strip 45 (pParts m).2.2.1)⟩ ∧
    aD (strip 45 (pParts m).2.2.1) ∧ (pParts m).2.2.1 ≠ [] ∧ aD ((pParts m).1 ++ (pParts m).2.1) ∧ (pParts m).1 ≠ [] ∧ (pParts m).1.length + (pParts m).2.1.length ≤ m.length := by
  unfold pParts at h ⊢
  split at h
  · simp at h
  · rename_i hc
    rw [if_neg hc]
    cases hp : pFrac (m.dropWhile isD) with
    | none => rw [hp] at h; simp at h
    | some p =>
      obtain ⟨f, r⟩ := p
      rw [hp] at h
      simp only at h ⊢
      have hm := List.takeWhile_append_dropWhile (p := isD) (l := m)
      have hW := aD_tw m
      have hlen := congrArg List.length hm
      rw [List.length_append] at hlen
      have hWne : m.takeWhile isD ≠ [] := fun e => hc (.inl (by rw [e]; rfl))
      have he0 : e0.data.toList = [] := rfl
      have hb0 : ∀ l : BL, ba (e0.data.toList ++ l) = ba l := fun l => by rw [he0, List.nil_append]
      cases hd : m.dropWhile isD with
      | nil =>
        rw [hd] at hp hlen
        simp only [pFrac, Option.some.injEq, Prod.mk.injEq] at hp
        obtain ⟨rfl, rfl⟩ := hp
        obtain ⟨pw, h1, h2, h3⟩ := fold_pow h ng false (ba (m.takeWhile isD)) 0
        refine ⟨false, pw, ?_, h2, h3, by rw [List.append_nil]; exact hW, hWne, by simp at hlen ⊢; omega⟩
        conv => lhs; rw [← hm, hd, List.append_nil]
        rw [fold_dig _ _ _ _ _ _ _ hW, hb0, List.append_nil]
        simpa [nfold] using h1
      | cons b q =>
        rw [hd] at hp hlen
        simp only [pFrac] at hp
        split at hp
        · rename_i h46
          split at hp
          · cases hp
          · rename_i hq
            simp only [Option.some.injEq, Prod.mk.injEq] at hp
            obtain ⟨rfl, rfl⟩ := hp
            have hq2 := List.takeWhile_append_dropWhile (p := isD) (l := q)
            have hF := aD_tw q
            have hlen2 := congrArg List.length hq2
            rw [List.length_append] at hlen2
            obtain ⟨pw, h1, h2, h3⟩ := fold_pow h ng true (ba (m.takeWhile isD ++ q.takeWhile isD)) (q.takeWhile isD).length
            refine ⟨true, pw, ?_, h2, h3, fun c hcm => (List.mem_append.1 hcm).elim (hW c) (hF c), hWne, by simp at hlen; omega⟩
            have hdot : nstep b.toNat ⟨ng, false, false, false, ba (m.takeWhile isD), 0, 0⟩ = ⟨ng, false, true, false, ba (m.takeWhile isD), 0, 0⟩ := by
              simp only [nstep, Bool.false_eq_true, if_false]; rw [if_neg (by omega), if_pos h46]
            conv => lhs; rw [← hm, hd]
            show List.foldl _ _ _ = _
            rw [List.foldl_append, show List.foldl (fun t (b : UInt8) => nstep b.toNat t) ⟨ng, false, false, false, e0, 0, 0⟩ (m.takeWhile isD) = _ from fold_dig _ _ _ _ _ _ _ hW, hb0]
            rw [List.foldl_cons]
            simp only [Bool.false_eq_true, if_false, Int.add_zero]
            rw [hdot]
            conv => lhs; rw [← hq2]
            rw [List.foldl_append, show List.foldl (fun t (b : UInt8) => nstep b.toNat t) ⟨ng, false, true, false, ba (m.takeWhile isD), 0, 0⟩ (q.takeWhile isD) = _ from fold_dig _ _ _ _ _ _ _ hF, ba_toList]
            simpa [nfold] using h1
        · simp only [Option.some.injEq, Prod.mk.injEq] at hp
          obtain ⟨rfl, rfl⟩ := hp
          obtain ⟨pw, h1, h2, h3⟩ := fold_pow h ng false (ba (m.takeWhile isD)) 0
          refine ⟨false, pw, ?_, h2, h3, by rw [List.append_nil]; exact hW, hWne, by simp at hlen ⊢; omega⟩
          conv => lhs; rw [← hm, hd]
          show List.foldl _ _ _ = _
          rw [List.foldl_append, show List.foldl (fun t (b : UInt8) => nstep b.toNat t) ⟨ng, false, false, false, e0, 0, 0⟩ (m.takeWhile isD) = _ from fold_dig _ _ _ _ _ _ _ hW, hb0, List.append_nil]
          simpa [nfold] using h1
end Lg
namespace Lg
open Go
theorem bat_getD (d : ByteArray) (i : Nat) : bat d i = d.data.toList.getD i 0 := rfl
theorem bat_ba (l : BL) (i : Nat) : bat (ba l) i = l.getD i 0 := by rw [bat_getD, ba_toList]
theorem digs_aD {l : BL} (h : aD l) : digs (ba l) l.length := fun j hj => by
  unfold dig
  rw [bat_ba, List.getD_eq_getElem?_getD, List.getElem?_eq_getElem hj]
  exact (isD_iff _).1 (h _ (List.getElem_mem hj))
/-- A number of trimmed digits may be just if it isn't large. -/
theorem numMay_cut {l : BL} (hl : aD l) (hne : l ≠ []) (hh : ∀ b ∈ l.head?, b ≠ 48) (ng : Bool) (x : Int) :
    NumMay ⟨ng, ba (cutR l), x⟩ ↔ (cutR l).length ≤ 60 ∧ -1000 ≤ x ∧ x ≤ 1000 := by
  have hc : cutR l ≠ [] := fun e => hne ((cutR_nil hh).1 e)
  have hpos : 0 < (cutR l).length := List.length_pos_iff.2 hc
  have hne2 : ¬ ba (cutR l) = ⟨#[]⟩ := fun e => by
    have := congrArg ByteArray.size e
    rw [ba_size] at this
    change (cutR l).length = 0 at this
    omega
  have hsub : aD (cutR l) := fun b hb => by
    rw [cutR_pre] at hb
    exact hl b (List.mem_of_mem_take hb)
  have hfirst : (bat (ba (cutR l)) 0).toNat ≠ 48 := by
    rw [bat_ba]
    have h1 := cutR_head hc
    cases hk : cutR l with
    | nil => exact absurd hk hc
    | cons b r =>
      rw [hk] at h1
      have := hh b (by rw [← h1]; rfl)
      simp only [List.getD_cons_zero]
      exact fun e => this (UInt8.toNat_inj.1 e)
  have hlast : (bat (ba (cutR l)) ((ba (cutR l)).size - 1)).toNat ≠ 48 := by
    rw [bat_ba, ba_size]
    have h1 := cutR_last hc
    have h2 : (cutR l).getD ((cutR l).length - 1) 0 = (cutR l).getLast hc := by
      rw [List.getLast_eq_getElem, List.getD_eq_getElem?_getD, List.getElem?_eq_getElem (by omega)]; rfl
    rw [h2]
    exact fun e => h1 (UInt8.toNat_inj.1 e)
  unfold NumMay
  constructor
  · rintro (⟨h, _⟩ | ⟨_, _, h2, _, _, h3, h4⟩)
    · exact absurd h hne2
    · rw [ba_size] at h2; exact ⟨h2, h3, h4⟩
  · rintro ⟨h2, h3, h4⟩
    refine .inr ⟨hne2, ?_, by rw [ba_size]; exact h2, hfirst, hlast, h3, h4⟩
    show digs (ba (cutR l)) (ba (cutR l)).size
    rw [ba_size]; exact digs_aD hsub
theorem strip_len (c : Nat) (l : BL) : (strip c l).length ≤ l.length := by
  cases l with
  | nil => exact Nat.le_refl _
  | cons b r =>
    by_cases h : b.toNat = c
    · rw [strip_eq h]; simp
    · rw [strip_ne h]; exact Nat.le_refl _
/-- The reference's number is the program's. -/
theorem rNum_pNum (s : ByteArray) (hs : s.size ≤ 1000) : rNum s = pNum s.data.toList := by
  have hiff := rEnd_iff s
  have hlen : s.data.toList.length = s.size := Array.length_toList
  unfold rNum pNum
  by_cases hok : ¬ (pParts (strip 45 s.data.toList)).2.2.2 = true
  · have hf : (pParts (strip 45 s.data.toList)).2.2.2 = false := by simpa using hok
    rw [if_pos hf, if_pos (Decidable.byContradiction fun h => hok (hiff.1 h))]
  · have hok := Decidable.not_not.1 hok
    rw [if_neg (hiff.2 hok), if_neg (show ¬ (pParts (strip 45 s.data.toList)).2.2.2 = false by rw [hok]; simp)]
    -- the loop
    have hfold : ∃ pt pw, nloop s 0 nst0 = ⟨hd45 s.data.toList, hd45 (pParts (strip 45 s.data.toList)).2.2.1, pt, pw, ba ((pParts (strip 45 s.data.toList)).1 ++ (pParts (strip 45 s.data.toList)).2.1), ((pParts (strip 45 s.data.toList)).2.1.length : Int), satL 0 (strip 45 (pParts (strip 45 s.data.toList)).2.2.1)⟩ := by
      rw [nloop_fold, List.drop_zero]
      cases hl : s.data.toList with
      | nil => rw [hl] at hok; simp [strip, pParts] at hok
      | cons b r =>
        rw [hl] at hok
        by_cases hb : b.toNat = 45
        · have hb45 : b = 45 := UInt8.toNat_inj.1 hb
          obtain ⟨pt, pw, h1, _⟩ := gathered hok true
          refine ⟨pt, pw, ?_⟩
          rw [strip_eq hb] at h1 ⊢
          have hst : nstep b.toNat nst0 = ⟨true, false, false, false, e0, 0, 0⟩ := by
            simp only [nst0, nstep, Bool.false_eq_true, if_false]; rw [if_pos hb]
          rw [List.foldl_cons, hst]
          have hh : hd45 (b :: r) = true := by simp [hd45, hb45]
          rw [hh]; exact h1
        · obtain ⟨pt, pw, h1, _⟩ := gathered hok false
          refine ⟨pt, pw, ?_⟩
          rw [strip_ne hb] at h1 ⊢
          have hh : hd45 (b :: r) = false := by
            simp only [hd45, beq_eq_false_iff_ne, ne_eq]; exact fun e => hb (by rw [e]; rfl)
          rw [hh]; exact h1
    obtain ⟨_, _, _, hX, hXne, hD, hWne, hDl⟩ := gathered hok true
    obtain ⟨pt, pw, hT⟩ := hfold
    rw [hT]
    generalize pParts (strip 45 s.data.toList) = P at *
    obtain ⟨W, F, E, ok⟩ := P
    simp only at *
    generalize hDD : W ++ F = D at *
    have hDsz : (ba D).size = D.length := ba_size D
    have hstripl : (strip 45 s.data.toList).length ≤ s.size := by
      rw [← hlen]; exact strip_len 45 _
    have hDn : D.length = W.length + F.length := by rw [← hDD]; simp
    have hnF : nF ⟨hd45 s.data.toList, hd45 E, pt, pw, ba D, F.length, satL 0 (strip 45 E)⟩ = (D.takeWhile (· == 48)).length := by
      unfold nF; rw [fz_list, ba_toList]; simp
    have hfl : (D.takeWhile (· == 48)).length ≤ D.length := (List.takeWhile_sublist _).length_le
    have hdrop : D.drop (D.takeWhile (· == 48)).length = cutL D := (dropWhile_drop' _ D).symm
    have hnL : nL ⟨hd45 s.data.toList, hd45 E, pt, pw, ba D, F.length, satL 0 (strip 45 E)⟩ = (D.takeWhile (· == 48)).length + (cutR (cutL D)).length := by
      unfold nL; rw [hnF]
      simp only
      rw [lz_list _ _ _ (by rw [hDsz]; exact hfl) (Nat.le_refl _), ba_toList, hDsz, List.take_length, hdrop]
    have hcl : (cutL D).length = D.length - (D.takeWhile (· == 48)).length := by rw [← hdrop, List.length_drop]
    have hcr := cutR_len (cutL D)
    have hnil := cutR_nil (cutL_head D)
    rw [hnF, hnL]
    by_cases hall : cutL D = []
    · rw [if_pos (by rw [hall]; rfl), if_pos hall]
    · have hcne : cutR (cutL D) ≠ [] := fun e => hall (hnil.1 e)
      have hcpos : 0 < (cutR (cutL D)).length := List.length_pos_iff.2 hcne
      rw [if_neg (by omega), if_neg hall]
      have hofd : (ba D).extract (D.takeWhile (· == 48)).length ((D.takeWhile (· == 48)).length + (cutR (cutL D)).length) = ba (cutR (cutL D)) := by
        apply ba_ext
        rw [ba_toList]
        have : ((ba D).extract (D.takeWhile (· == 48)).length ((D.takeWhile (· == 48)).length + (cutR (cutL D)).length)).data.toList = (D.drop (D.takeWhile (· == 48)).length).take (cutR (cutL D)).length := by
          simp [ByteArray.data_extract, List.extract_eq_take_drop, ba]
        rw [this, hdrop, ← cutR_pre]
      have hsat := smallN_sat hX
      have hof : nOf ⟨hd45 s.data.toList, hd45 E, pt, pw, ba D, F.length, satL 0 (strip 45 E)⟩ = ⟨hd45 s.data.toList, ba (cutR (cutL D)), (if hd45 E = true then -satL 0 (strip 45 E) else satL 0 (strip 45 E)) - F.length + ((cutL D).length - (cutR (cutL D)).length)⟩ := by
        unfold nOf
        rw [hnF, hnL]
        simp only [hofd, nsgn, hDsz]
        congr 1
        omega
      rw [hof]
      have hmay := numMay_cut (l := cutL D) (aD_dw (l := D) hD) hall (cutL_head D) (hd45 s.data.toList) ((if hd45 E = true then -satL 0 (strip 45 E) else satL 0 (strip 45 E)) - F.length + ((cutL D).length - (cutR (cutL D)).length))
      by_cases hbig : satL 0 (strip 45 E) < 1000000
      · have he : smallN (strip 45 E) = satL 0 (strip 45 E) := by omega
        rw [he]
        have hx : ∀ y : Int, y - F.length + (cutL D).length - (cutR (cutL D)).length = y - F.length + ((cutL D).length - (cutR (cutL D)).length) := fun y => by omega
        rw [hx]
        generalize (if hd45 E = true then -satL 0 (strip 45 E) else satL 0 (strip 45 E)) = z at *
        by_cases hm : NumMay ⟨hd45 s.data.toList, ba (cutR (cutL D)), z - F.length + ((cutL D).length - (cutR (cutL D)).length)⟩
        · have := hmay.1 hm
          rw [if_pos hm, if_neg (by omega)]
        · have := mt hmay.2 hm
          rw [if_neg hm, if_pos (by omega)]
      · have hS : satL 0 (strip 45 E) = 1000000 := by omega
        have hb2 : 1000000 ≤ smallN (strip 45 E) := by omega
        have hm : ¬ NumMay ⟨hd45 s.data.toList, ba (cutR (cutL D)), (if hd45 E = true then -satL 0 (strip 45 E) else satL 0 (strip 45 E)) - F.length + ((cutL D).length - (cutR (cutL D)).length)⟩ := fun h => by
          have := hmay.1 h
          by_cases hh : hd45 E = true
          · rw [if_pos hh] at this; omega
          · rw [if_neg hh] at this; omega
        rw [if_neg hm]
        clear hof hmay hm
        have hl1 : (60 < (cutR (cutL D)).length ∨
     1000 < (if hd45 E = true then -smallN (strip 45 E) else smallN (strip 45 E)) - F.length + (cutL D).length - (cutR (cutL D)).length ∨
     (if hd45 E = true then -smallN (strip 45 E) else smallN (strip 45 E)) - F.length + (cutL D).length - (cutR (cutL D)).length < -1000) := by
          by_cases hh : hd45 E = true
          · rw [if_pos hh]; omega
          · rw [if_neg hh]; omega
        rw [if_pos hl1]
end Lg
namespace Lg
open Go
theorem ba_inj {a b : BL} : ba a = ba b ↔ a = b := ⟨fun h => by rw [← ba_toList a, h, ba_toList], fun h => by rw [h]⟩
theorem ba_nil {a : BL} : ba a = ⟨#[]⟩ ↔ a = [] := ba_inj (b := [])
theorem ba_ex (l : BL) (i j : Nat) : (ba l).extract i j = ba ((l.take j).drop i) := by
  apply ba_ext
  rw [ba_toList]
  simp [ByteArray.data_extract, List.extract_eq_take_drop, ba, List.drop_take]
theorem ba_app (a b : BL) : ba a ++ ba b = ba (a ++ b) := ba_ext (by simp [ba])
theorem ba_pre (l : BL) (n : Nat) : (ba l).extract 0 n = ba (l.take n) := by rw [ba_ex]; rfl
theorem ba_suf (l : BL) (n : Nat) : (ba l).extract n (ba l).size = ba (l.drop n) := by rw [ba_ex, ba_size, List.take_length]
theorem ba_suf1 (b : UInt8) (l : BL) : (ba (b :: l)).extract 1 (ba (b :: l)).size = ba l := ba_suf _ 1
theorem tw_take (l : BL) : l.take (l.takeWhile isD).length = l.takeWhile isD := by
  have h := List.takeWhile_append_dropWhile (p := isD) (l := l)
  conv => lhs; arg 2; rw [← h]
  rw [List.take_left']; rfl
theorem runl_ba (l : BL) : runl (ba l) 0 = (l.takeWhile isD).length := by rw [runl_tw, ba_toList]; rfl
theorem hd45_strip (l : BL) : (strip 45 l ≠ l) ↔ hd45 l = true := by
  cases l with
  | nil => simp [strip, hd45]
  | cons b r =>
    by_cases h : b.toNat = 45
    · have hb : b = 45 := UInt8.toNat_inj.1 h
      rw [strip_eq h]
      simp only [hd45, hb, beq_self_eq_true, iff_true]
      intro e; have := congrArg List.length e; simp at this
    · have hb : ¬ b = 45 := fun e => h (by rw [e]; rfl)
      rw [strip_ne h]; simp [hd45, hb]
theorem ex1 (b : UInt8) (r : BL) (c : UInt8) : ((ba (b :: r)).extract 0 1 = (⟨#[c]⟩ : ByteArray)) ↔ b.toNat = c.toNat := by
  rw [ba_pre]
  have : (⟨#[c]⟩ : ByteArray) = ba [c] := rfl
  rw [this, ba_inj]
  simp [UInt8.toNat_inj]
def hdC (c : UInt8) : BL → Bool
  | [] => false
  | b :: _ => decide (b.toNat = c.toNat)
theorem bat0 (b : UInt8) (r : BL) : bat (ba (b :: r)) 0 = b := bat_ba _ 0
theorem cutL_cons (b : UInt8) (r : BL) : cutL (b :: r) = if b = 48 then cutL r else b :: r := by
  unfold cutL
  by_cases h : b = 48
  · simp [h]
  · have : (b == 48) = false := by simpa using h
    simp [List.dropWhile_cons, this, h]
theorem cutR_take {l : BL} (h : 0 < l.length) : cutR l = if l.getD (l.length - 1) 0 = 48 then cutR (l.take (l.length - 1)) else l := by
  have h1 : l = l.take (l.length - 1) ++ [l.getD (l.length - 1) 0] := by
    have := take_snoc (l := l) (k := l.length - 1) (by omega)
    rw [show l.length - 1 + 1 = l.length by omega, List.take_length] at this
    exact this
  conv => lhs; rw [h1]
  rw [cutR_snoc]
  split
  · rfl
  · exact h1.symm
end Lg
namespace Lg
open Go
def jsign (n : JNum) : Int := if n.digits = ⟨#[]⟩ then 0 else if n.neg = true then -1 else 1
def cmpI (a b : Int) : Int := if a < b then -1 else if b < a then 1 else 0
def cmpS (a b : ByteArray) : Int := if blt a b = true then -1 else if (blt a b || decide (a = b)) = false then 1 else 0
def pCmp (a b : JNum) : Int := if jsign a = jsign b then jsign a * (if cmpI (a.digits.size + a.exp) (b.digits.size + b.exp) = 0 then cmpS a.digits b.digits else cmpI (a.digits.size + a.exp) (b.digits.size + b.exp)) else cmpI (jsign a) (jsign b)
def zer (k : Int) : BL := List.replicate k.toNat 48
/-- A number's digits, up to a power of ten. -/
def jexp (n : JNum) (low : Int) : ByteArray := if n.digits = ⟨#[]⟩ then ⟨#[]⟩ else n.digits ++ ba (zer (n.exp - low))
def lessS (x y : ByteArray) : Bool := if x.size = y.size then blt x y else decide (x.size < y.size)
def rLess (a b : JNum) : Bool :=
  if a.neg = b.neg then (if a.neg = true then lessS (jexp b (min a.exp b.exp)) (jexp a (min a.exp b.exp)) else lessS (jexp a (min a.exp b.exp)) (jexp b (min a.exp b.exp))) else a.neg
def rCmp (a b : JNum) : Int := if rLess a b = true then -1 else if rLess b a = true then 1 else 0
def itoaB (n : Int) : ByteArray := ba (Lib.itoa n)
theorem dd_small {u : Nat} (h : u < 10) : Lib.decDigits u = [UInt8.ofNat (48 + u)] := by rw [Lib.decDigits, dif_pos h]
theorem dd_big {u : Nat} (h : ¬ u < 10) : Lib.decDigits u = Lib.decDigits (u / 10) ++ [UInt8.ofNat (48 + u % 10)] := by rw [Lib.decDigits, dif_neg h]
theorem itoa_neg {n : Int} (h : n < 0) : itoaB n = (⟨#[45]⟩ : ByteArray) ++ itoaB (-n) := by
  unfold itoaB Lib.itoa
  rw [if_pos h, if_neg (by omega), show n.natAbs = (-n).toNat by omega]
  have : (⟨#[45]⟩ : ByteArray) = ba [45] := rfl
  rw [this, ba_app]; rfl
theorem itoa_small {n : Int} (h : 0 ≤ n) (h1 : n < 10) : itoaB n = ⟨#[u8b (48 + n)]⟩ := by
  unfold itoaB Lib.itoa
  rw [if_neg (by omega), dd_small (by omega)]
  have e : u8b (48 + n) = UInt8.ofNat (48 + n.toNat) := by unfold u8b; congr 1; omega
  rw [e]; rfl
theorem itoa_big {n : Int} (h1 : 10 ≤ n) : itoaB n = itoaB (n / 10) ++ (⟨#[u8b (48 + n % 10)]⟩ : ByteArray) := by
  unfold itoaB Lib.itoa
  rw [if_neg (by omega), if_neg (by omega), dd_big (by omega)]
  have e : u8b (48 + n % 10) = UInt8.ofNat (48 + n.toNat % 10) := by unfold u8b; congr 1; omega
  have e2 : (⟨#[u8b (48 + n % 10)]⟩ : ByteArray) = ba [UInt8.ofNat (48 + n.toNat % 10)] := by rw [e]; rfl
  rw [e2, ba_app]
  congr 3; omega
theorem dd_len (u : Nat) : ∀ k, u < 10 ^ (k + 1) → (Lib.decDigits u).length ≤ k + 1 := by
  intro k
  induction k generalizing u with
  | zero => intro h; rw [dd_small (by simpa using h)]; exact Nat.le_refl _
  | succ k ih =>
    intro h
    by_cases h1 : u < 10
    · rw [dd_small h1]; simp
    · rw [dd_big h1, List.length_append]
      have := ih (u / 10) (by rw [Nat.pow_succ] at h; omega)
      simp; omega
theorem itoa_size {n : Int} (h0 : -9223372036854775808 ≤ n) (h1 : n ≤ 9223372036854775807) : (itoaB n).size ≤ 21 := by
  unfold itoaB
  rw [ba_size]
  unfold Lib.itoa
  split
  · have := dd_len n.natAbs 19 (by omega)
    simp; omega
  · have := dd_len n.toNat 19 (by omega); omega
def jshow (n : JNum) : ByteArray :=
  if n.digits = ⟨#[]⟩ then ⟨#[48]⟩ else
  if n.exp = 0 then (if n.neg = true then (⟨#[45]⟩ : ByteArray) ++ n.digits else n.digits) else (if n.neg = true then (⟨#[45]⟩ : ByteArray) ++ n.digits else n.digits) ++ (⟨#[101]⟩ : ByteArray) ++ itoaB n.exp
def rWhole (n : JNum) : Bool := decide (n.digits = ⟨#[]⟩) || decide (0 ≤ n.exp)
theorem pParts_no {l : BL} (h : (l.takeWhile isD).length = 0 ∨ (1 < (l.takeWhile isD).length ∧ l.headD 0 = 48)) : pParts l = ([], [], [], false) := by unfold pParts; rw [if_pos h]
theorem pParts_none {l : BL} (h : ¬ ((l.takeWhile isD).length = 0 ∨ (1 < (l.takeWhile isD).length ∧ l.headD 0 = 48))) (h2 : pFrac (l.dropWhile isD) = none) : pParts l = ([], [], [], false) := by unfold pParts; rw [if_neg h, h2]
theorem pParts_some {l : BL} {f r : BL} (h : ¬ ((l.takeWhile isD).length = 0 ∨ (1 < (l.takeWhile isD).length ∧ l.headD 0 = 48))) (h2 : pFrac (l.dropWhile isD) = some (f, r)) : pParts l = (l.takeWhile isD, f, (pExp r).1, (pExp r).2) := by unfold pParts; rw [if_neg h, h2]
end Lg
namespace Lg
open Go
theorem hdC_true {c : UInt8} {l : BL} (h : hdC c l = true) : ∃ b q, l = b :: q ∧ b.toNat = c.toNat := by
  cases l with
  | nil => simp [hdC] at h
  | cons b q => exact ⟨b, q, rfl, by simpa [hdC] using h⟩
theorem hdC_strip {c : UInt8} {l : BL} (h : hdC c l = false) : strip c.toNat l = l := by
  cases l with
  | nil => rfl
  | cons b q => exact strip_ne (by simpa [hdC] using h)
theorem hdC_cons (c b : UInt8) (q : BL) : hdC c (b :: q) = decide (b.toNat = c.toNat) := rfl
theorem strip_ne_iff (c : UInt8) (l : BL) : (strip c.toNat l ≠ l) ↔ hdC c l = true := by
  cases l with
  | nil => simp [strip, hdC]
  | cons b r =>
    by_cases h : b.toNat = c.toNat
    · rw [strip_eq h]; simp only [hdC, h, decide_true, iff_true]
      intro e; have := congrArg List.length e; simp at this
    · rw [strip_ne h]; simp [hdC, h]
theorem pFrac_dot {b : UInt8} {q : BL} (h : b.toNat = 46) (h2 : ¬ (q.takeWhile isD).length = 0) : pFrac (b :: q) = some (q.takeWhile isD, q.dropWhile isD) := by
  simp only [pFrac]; rw [if_pos h, if_neg (by rw [List.isEmpty_iff_length_eq_zero]; exact h2)]
theorem pFrac_bad {b : UInt8} {q : BL} (h : b.toNat = 46) (h2 : (q.takeWhile isD).length = 0) : pFrac (b :: q) = none := by
  simp only [pFrac]; rw [if_pos h, if_pos (by rw [List.isEmpty_iff_length_eq_zero]; exact h2)]
theorem pFrac_not {l : BL} (h : hdC 46 l = false) : pFrac l = some ([], l) := by
  cases l with
  | nil => rfl
  | cons b q => simp only [pFrac]; rw [if_neg (by simpa [hdC] using h)]
theorem pFrac_len {l f r : BL} (h : pFrac l = some (f, r)) : f.length + r.length ≤ l.length := by
  cases l with
  | nil => simp [pFrac] at h; obtain ⟨rfl, rfl⟩ := h; simp
  | cons b q =>
    simp only [pFrac] at h
    split at h
    · split at h
      · cases h
      · simp only [Option.some.injEq, Prod.mk.injEq] at h
        obtain ⟨rfl, rfl⟩ := h
        have := congrArg List.length (List.takeWhile_append_dropWhile (p := isD) (l := q))
        simp only [List.length_append, List.length_cons] at this ⊢; omega
    · simp only [Option.some.injEq, Prod.mk.injEq] at h
      obtain ⟨rfl, rfl⟩ := h
      simp
theorem pExp2 (b : UInt8) (q : BL) : (pExp (b :: q)).2 = ((decide (b.toNat = 101) || decide (b.toNat = 69)) && (!decide (strip 45 (strip 43 q) = []) && (decide (((strip 45 (strip 43 q)).takeWhile isD).length = (strip 45 (strip 43 q)).length) && !(hdC 43 q && decide (strip 45 (strip 43 q) ≠ strip 43 q))))) := by
  have h43 : decide (strip 43 q ≠ q) = hdC 43 q := by
    have := strip_ne_iff 43 q
    have e : (43 : UInt8).toNat = 43 := rfl
    rw [e] at this
    cases h : hdC 43 q with
    | true => exact decide_eq_true (this.2 h)
    | false => exact decide_eq_false (fun k => by rw [this.1 k] at h; cases h)
  have hn : (strip 45 (strip 43 q)).isEmpty = decide (strip 45 (strip 43 q) = []) := by cases strip 45 (strip 43 q) <;> rfl
  unfold pExp
  simp only [h43, hn]
theorem pExp3 (b : UInt8) (q : BL) : (pExp (b :: q)).2 = ((decide ((b.toNat : Int) = 101) || decide ((b.toNat : Int) = 69)) && (!decide (strip 45 (strip 43 q) = []) && (decide ((((strip 45 (strip 43 q)).takeWhile isD).length : Int) = ((ba (strip 45 (strip 43 q))).size : Int)) && !(hdC 43 q && decide (strip 45 (strip 43 q) ≠ strip 43 q))))) := by
  rw [pExp2]
  have e1 : decide ((b.toNat : Int) = 101) = decide (b.toNat = 101) := decide_eq_decide.2 (by omega)
  have e2 : decide ((b.toNat : Int) = 69) = decide (b.toNat = 69) := decide_eq_decide.2 (by omega)
  have e3 : decide ((((strip 45 (strip 43 q)).takeWhile isD).length : Int) = ((ba (strip 45 (strip 43 q))).size : Int)) = decide (((strip 45 (strip 43 q)).takeWhile isD).length = (strip 45 (strip 43 q)).length) := decide_eq_decide.2 (by rw [ba_size]; omega)
  rw [e1, e2, e3]
end Lg
namespace Lg
open Go
/-! ### A text in quotes -/
def hxd (n : Nat) : UInt8 := (([48, 49, 50, 51, 52, 53, 54, 55, 56, 57, 97, 98, 99, 100, 101, 102] : BL).getD n 0)
def qch (b : UInt8) : BL := if b.toNat = 34 ∨ b.toNat = 92 then [92, b] else if b.toNat < 32 then [92, 117, 48, 48, hxd (b.toNat / 16), hxd (b.toNat % 16)] else [b]
def qbody (l : BL) : BL := l.flatMap qch
def quoteL (l : BL) : BL := 34 :: qbody l ++ [34]
theorem qch_len (b : UInt8) : (qch b).length ≤ 6 := by unfold qch; split <;> (try split) <;> simp
theorem qbody_len (l : BL) : (qbody l).length ≤ 6 * l.length := by
  induction l with
  | nil => simp [qbody]
  | cons b l ih =>
    have := qch_len b
    simp only [qbody, List.flatMap_cons, List.length_append, List.length_cons] at *
    omega
theorem qbody_snoc (l : BL) (b : UInt8) : qbody (l ++ [b]) = qbody l ++ qch b := by simp [qbody]
theorem qbody_take {l : BL} {i : Nat} (h : i < l.length) : qbody (l.take (i + 1)) = qbody (l.take i) ++ qch (l.getD i 0) := by rw [take_snoc h, qbody_snoc]
theorem qch1 {b : UInt8} (h : b.toNat = 34 ∨ b.toNat = 92) : qch b = [92, b] := by unfold qch; rw [if_pos h]
theorem qch2 {b : UInt8} (h : ¬ (b.toNat = 34 ∨ b.toNat = 92)) (h2 : b.toNat < 32) : qch b = [92, 117, 48, 48, hxd (b.toNat / 16), hxd (b.toNat % 16)] := by unfold qch; rw [if_neg h, if_pos h2]
theorem qch3 {b : UInt8} (h : ¬ (b.toNat = 34 ∨ b.toNat = 92)) (h2 : ¬ b.toNat < 32) : qch b = [b] := by unfold qch; rw [if_neg h, if_neg h2]
end Lg
namespace Lg
open Go
/-! ### A value's canonical text -/
def nullL : BL := [110, 117, 108, 108]
def trueL : BL := [116, 114, 117, 101]
def falseL : BL := [102, 97, 108, 115, 101]
mutual
def jtx : JV → BL
  | .mk k b n s l m => if k = 1 then (if b then trueL else falseL) else if k = 2 then (jshow n).data.toList else if k = 3 then quoteL s.data.toList else
    if k = 4 then ljw 91 l ++ (if l.length = 0 then [91, 93] else [93]) else if k = 5 then mjw 123 m ++ (if m.length = 0 then [123, 125] else [125]) else nullL
def ljw (c : UInt8) : List JV → BL
  | [] => []
  | x :: r => c :: (jtx x ++ ljw 44 r)
def mjw (c : UInt8) : List (ByteArray × JV) → BL
  | [] => []
  | (k, x) :: r => c :: (quoteL k.data.toList ++ 58 :: (jtx x ++ mjw 44 r))
end
theorem jtx_eq (v : JV) : jtx v = if v.kind = 1 then (if v.b then trueL else falseL) else if v.kind = 2 then (jshow v.n).data.toList else if v.kind = 3 then quoteL v.s.data.toList else
    if v.kind = 4 then ljw 91 v.l ++ (if v.l.length = 0 then [91, 93] else [93]) else if v.kind = 5 then mjw 123 v.m ++ (if v.m.length = 0 then [123, 125] else [125]) else nullL := by
  cases v; rw [jtx]; rfl
theorem ljw_snoc : ∀ (l : List JV) (c : UInt8) (x : JV), ljw c (l ++ [x]) = ljw c l ++ (if l.length = 0 then c else 44) :: jtx x
  | [], c, x => by simp [ljw]
  | y :: r, c, x => by
    rw [List.cons_append, ljw, ljw_snoc r 44 x, ljw]
    cases r <;> simp
theorem mjw_snoc : ∀ (l : List (ByteArray × JV)) (c : UInt8) (x : ByteArray × JV), mjw c (l ++ [x]) = mjw c l ++ (if l.length = 0 then c else 44) :: (quoteL x.1.data.toList ++ 58 :: jtx x.2)
  | [], c, x => by simp [mjw]
  | y :: r, c, x => by
    rw [List.cons_append, mjw, mjw_snoc r 44 x, mjw]
    cases r <;> simp
theorem ltake_succ {α : Type} {l : List α} {i : Nat} {x : α} (h : l[i]? = some x) : l.take (i + 1) = l.take i ++ [x] := by rw [List.take_add_one, h]; rfl
theorem ljw_take {l : List JV} {i : Nat} {x : JV} (c : UInt8) (h : l[i]? = some x) : ljw c (l.take (i + 1)) = ljw c (l.take i) ++ (if i = 0 then c else 44) :: jtx x := by
  have hi := (List.getElem?_eq_some_iff.1 h).1
  rw [ltake_succ h, ljw_snoc, List.length_take, Nat.min_eq_left (by omega)]
theorem mjw_take {l : List (ByteArray × JV)} {i : Nat} {x : ByteArray × JV} (c : UInt8) (h : l[i]? = some x) : mjw c (l.take (i + 1)) = mjw c (l.take i) ++ (if i = 0 then c else 44) :: (quoteL x.1.data.toList ++ 58 :: jtx x.2) := by
  have hi := (List.getElem?_eq_some_iff.1 h).1
  rw [ltake_succ h, mjw_snoc, List.length_take, Nat.min_eq_left (by omega)]
theorem ljw_head (c : UInt8) (l : List JV) : ljw c l = if l.length = 0 then [] else c :: (ljw 44 l).tail := by cases l <;> simp [ljw]
theorem mjw_head (c : UInt8) (l : List (ByteArray × JV)) : mjw c l = if l.length = 0 then [] else c :: (mjw 44 l).tail := by
  cases l with
  | nil => simp [mjw]
  | cons x r => obtain ⟨k, y⟩ := x; simp [mjw]
theorem jshow_len (n : JNum) (h : n.digits.size ≤ 1000000) (h0 : -1000000 ≤ n.exp) (h1 : n.exp ≤ 1000000) : (jshow n).size ≤ 1000025 := by
  have := itoa_size (n := n.exp) (by omega) (by omega)
  have e1 : (⟨#[45]⟩ : ByteArray).size = 1 := rfl
  have e2 : (⟨#[101]⟩ : ByteArray).size = 1 := rfl
  have e3 : (⟨#[48]⟩ : ByteArray).size = 1 := rfl
  unfold jshow
  repeat' split
  all_goals (try simp only [ByteArray.size_append, e1, e2, e3])
  all_goals omega
/-- Kinds, strings, and numbers are such as the walk bears. -/
def jnb (n : JNum) : Prop := -1000000 ≤ n.exp ∧ n.exp ≤ 1000000
mutual
def jkb : JV → Prop
  | .mk k _ n _ l m => 0 ≤ k ∧ k ≤ 5 ∧ jnb n ∧ lkb l ∧ mkb m
def lkb : List JV → Prop
  | [] => True
  | v :: r => jkb v ∧ lkb r
def mkb : List (ByteArray × JV) → Prop
  | [] => True
  | (_, v) :: r => jkb v ∧ mkb r
end
theorem jkb_eq (v : JV) : jkb v ↔ 0 ≤ v.kind ∧ v.kind ≤ 5 ∧ jnb v.n ∧ lkb v.l ∧ mkb v.m := by cases v; simp [jkb, JV.kind, JV.n, JV.l, JV.m]
theorem lkb_get {l : List JV} {i : Nat} {x : JV} (h : lkb l) (hx : l[i]? = some x) : jkb x := by
  induction l generalizing i with
  | nil => simp at hx
  | cons a r ih =>
    cases i with
    | zero => simp at hx; subst hx; exact h.1
    | succ i => exact ih h.2 (by simpa using hx)
theorem mkb_get {l : List (ByteArray × JV)} {i : Nat} {x : ByteArray × JV} (h : mkb l) (hx : l[i]? = some x) : jkb x.2 := by
  induction l generalizing i with
  | nil => simp at hx
  | cons a r ih =>
    cases i with
    | zero => simp at hx; subst hx; exact h.1
    | succ i => exact ih h.2 (by simpa using hx)
theorem lkb_of : ∀ {l : List JV}, (∀ (i : Nat) x, l[i]? = some x → jkb x) → lkb l
  | [], _ => trivial
  | a :: r, h => ⟨h 0 a rfl, lkb_of fun i x hx => h (i + 1) x (by simpa using hx)⟩
theorem mkb_of : ∀ {l : List (ByteArray × JV)}, (∀ (i : Nat) x, l[i]? = some x → jkb x.2) → mkb l
  | [], _ => trivial
  | a :: r, h => ⟨h 0 a rfl, mkb_of fun i x hx => h (i + 1) x (by simpa using hx)⟩
theorem may_nb {n : JNum} (h : NumMay n) : jnb n := by
  rcases h with ⟨_, _, h⟩ | ⟨_, _, _, _, _, h1, h2⟩
  · unfold jnb; omega
  · unfold jnb; omega
theorem may_kb : ∀ (n : Nat) (v : JV), jsize v ≤ n → jmay v → jkb v := by
  intro n
  induction n with
  | zero => intro v h; have := jsize_pos v; omega
  | succ n ih =>
    intro v hn hm
    have hs := jsize_eq v
    have hl := lsize_nn v.l
    have hmm := msize_nn v.m
    obtain ⟨⟨h1, h2, h3, h4, h5⟩, h6, h7⟩ := (jmay_eq v).1 hm
    refine (jkb_eq v).2 ⟨h1, h2, may_nb h4, lkb_of fun i x hx => ih x ?_ (h7 i x hx), mkb_of fun i x hx => ih x.2 ?_ (h6 i x (List.getElem?_eq_some_iff.1 hx).1 hx).2⟩
    · have := lsize_mem hx; omega
    · have := msize_mem hx; omega
mutual
theorem jtx_len : ∀ v : JV, jb v → jkb v → ((jtx v).length : Int) + 7000010 ≤ 20000000 * jsize v
  | .mk k b n s l m => fun hb hk => by
    obtain ⟨b1, b2, b3, b4, b5, b6⟩ := hb
    obtain ⟨k1, k2, k3, k4, k5⟩ := hk
    have h1 := ljw_len l 91 b5 k4
    have h2 := mjw_len m 123 b6 k5
    have h3 := lsize_nn l
    have h4 := msize_nn m
    have h5 := jshow_len n b1 k3.1 k3.2
    have h6 := qbody_len s.data.toList
    have h7 : s.data.toList.length = s.size := Array.length_toList ..
    have h8 : (quoteL s.data.toList).length = (qbody s.data.toList).length + 2 := by unfold quoteL; simp
    have h9 : (jshow n).data.toList.length = (jshow n).size := Array.length_toList ..
    simp only [jtx, jsize, trueL, falseL, nullL]
    repeat' split
    all_goals (try simp only [List.length_append, List.length_cons, List.length_nil])
    all_goals omega
theorem ljw_len : ∀ (l : List JV) (c : UInt8), lb l → lkb l → ((ljw c l).length : Int) ≤ 20000000 * lsize l
  | [], c => fun _ _ => by simp [ljw, lsize]
  | x :: r, c => fun hb hk => by
    have h1 := jtx_len x hb.1 hk.1
    have h2 := ljw_len r 44 hb.2 hk.2
    simp only [ljw, lsize, List.length_append, List.length_cons]
    omega
theorem mjw_len : ∀ (l : List (ByteArray × JV)) (c : UInt8), mb l → mkb l → ((mjw c l).length : Int) ≤ 20000000 * msize l
  | [], c => fun _ _ => by simp [mjw, msize]
  | (k, x) :: r, c => fun hb hk => by
    have h1 := jtx_len x hb.2.1 hk.1
    have h2 := mjw_len r 44 hb.2.2 hk.2
    have h6 := qbody_len k.data.toList
    have h7 : k.data.toList.length = k.size := Array.length_toList ..
    have h8 : (quoteL k.data.toList).length = (qbody k.data.toList).length + 2 := by unfold quoteL; simp
    have h9 := hb.1
    simp only [mjw, msize, List.length_append, List.length_cons]
    omega
end
end Lg
namespace Lg
open Go Go.RowKit
variable [GLay] {P : Program} {τ ρ : List AO} {E : TypeId} {a a' : AV} {l l' : List UInt8}
/-! ### A Builder of the caller's, more objects behind it -/
theorem bldr_app : bldr τ a E l ++ ρ = τ ++ (.box [a, .bts (τ.length + 1) l.length] :: .bytes E l :: ρ) := by unfold bldr; rw [List.append_assoc]; rfl
theorem bldr_len : (bldr τ a E l).length = τ.length + 2 := by simp [bldr]
theorem sufB {f : FuncId} {args : List AV} {v : AV} (h : ACalls P f args (bldr τ a E l) (Ret v (bldr τ a' E l'))) (hτ : closed τ.length τ) (ha : a.lt (τ.length + 2)) (hargs : AV.ltL (τ.length + 2) args) :
    ACalls P f args (τ ++ (.box [a, .bts (τ.length + 1) l.length] :: .bytes E l :: ρ)) (Ret v (τ ++ (.box [a', .bts (τ.length + 1) l'.length] :: .bytes E l' :: ρ))) := by
  rw [← bldr_app, ← bldr_app]
  exact ACalls_suf h (by rw [bldr_len]; exact closed_bldr hτ ha) (by rw [bldr_len]; exact hargs) (by rw [bldr_len, bldr_len])
theorem ResQ_B {R : Out → List AO → Prop} {el : List (Nat × AV)} (hτ : closed τ.length τ) (ha : a'.lt (τ.length + 2)) (hR : R (.ret (.tup [])) (bldr τ a' E l')) :
    ResQ (bldr τ a E l).length [] R .normal ⟨[], el⟩ (τ ++ (.box [a', .bts (τ.length + 1) l'.length] :: .bytes E l' :: ρ)) := by
  refine ⟨rfl, τ.length + 2, by rw [bldr_len]; exact Nat.le_refl _, ?_, trivial, ?_⟩
  · exact closed_own 2 hτ (by simp [ownLt, AO.cells, AV.ltL, AV.lt, ha])
  · rw [take_own]; exact hR
end Lg
namespace Lg
open Go
theorem lb_take : ∀ (l : List JV) (i : Nat), lb l → lb (l.take i)
  | [], i, _ => by simp [lb]
  | a :: r, 0, _ => by simp [lb]
  | a :: r, i + 1, h => ⟨h.1, lb_take r i h.2⟩
theorem lkb_take : ∀ (l : List JV) (i : Nat), lkb l → lkb (l.take i)
  | [], i, _ => by simp [lkb]
  | a :: r, 0, _ => by simp [lkb]
  | a :: r, i + 1, h => ⟨h.1, lkb_take r i h.2⟩
theorem mb_take : ∀ (l : List (ByteArray × JV)) (i : Nat), mb l → mb (l.take i)
  | [], i, _ => by simp [mb]
  | a :: r, 0, _ => by simp [mb]
  | (k, x) :: r, i + 1, h => ⟨h.1, h.2.1, mb_take r i h.2.2⟩
theorem mkb_take : ∀ (l : List (ByteArray × JV)) (i : Nat), mkb l → mkb (l.take i)
  | [], i, _ => by simp [mkb]
  | a :: r, 0, _ => by simp [mkb]
  | (k, x) :: r, i + 1, h => ⟨h.1, mkb_take r i h.2⟩
def sgn (c : UInt8) : Nat → UInt8
  | 0 => c
  | _ + 1 => 44
theorem sgn_eq (c : UInt8) (i : Nat) : sgn c i = if i = 0 then c else 44 := by cases i <;> simp [sgn]
theorem ljw_step {l : List JV} {i : Nat} {x : JV} (c : UInt8) (h : l[i]? = some x) (p : BL) : p ++ ljw c (l.take i) ++ [sgn c i] ++ jtx x = p ++ ljw c (l.take (i + 1)) := by
  rw [ljw_take c h, sgn_eq]; simp
theorem mjw_step {l : List (ByteArray × JV)} {i : Nat} {x : ByteArray × JV} (c : UInt8) (h : l[i]? = some x) (p : BL) : p ++ mjw c (l.take i) ++ (sgn c i :: (quoteL x.1.data.toList ++ [58])) ++ jtx x.2 = p ++ mjw c (l.take (i + 1)) := by
  rw [mjw_take c h, sgn_eq]; simp
theorem ljw_le {l : List JV} (c : UInt8) (h1 : lb l) (h2 : lkb l) (i : Nat) : ((ljw c (l.take i)).length : Int) ≤ 20000000 * lsize (l.take i) ∧ lsize (l.take i) ≤ lsize l := ⟨ljw_len _ c (lb_take l i h1) (lkb_take l i h2), lsize_take_le l i⟩
theorem mjw_le {l : List (ByteArray × JV)} (c : UInt8) (h1 : mb l) (h2 : mkb l) (i : Nat) : ((mjw c (l.take i)).length : Int) ≤ 20000000 * msize (l.take i) ∧ msize (l.take i) ≤ msize l := ⟨mjw_len _ c (mb_take l i h1) (mkb_take l i h2), msize_take_le l i⟩
theorem tail_txt (x y : UInt8) (n : Nat) : ((⟨#[x, y]⟩ : ByteArray).extract (min (n : Int) 1).toNat ((2 : Nat) : Int).toNat).data.toList = if n = 0 then [x, y] else [y] := by
  by_cases h : n = 0
  · subst h; rw [if_pos rfl]; rfl
  · rw [if_neg h, show (min (n : Int) 1).toNat = 1 by omega]; rfl
theorem quote_size {s : ByteArray} (h : s.size ≤ 1000000) : (quoteL s.data.toList).length ≤ 6000002 := by
  have h6 := qbody_len s.data.toList
  have h7 : s.data.toList.length = s.size := Array.length_toList ..
  unfold quoteL; simp; omega
end Lg
namespace Lg
open Go Go.Lib
/-! ### UTF-8, put together -/
def u8L (l : List UInt8) : Nat := u8N l.length (l.getD 0 0).toNat (l.getD 1 0).toNat (l.getD 2 0).toNat (l.getD 3 0).toNat
theorem validD_u8 (l : List UInt8) (hne : l ≠ []) : validD l = if u8L l = 0 then false else validD (l.drop (u8L l)) := by
  rw [validD_step _ hne]
  have hw := decodeL_width l
  rw [decodeL_N] at hw ⊢
  unfold u8L u8N
  by_cases hc : (decodeN l.length (l.getD 0 0).toNat (l.getD 1 0).toNat (l.getD 2 0).toNat (l.getD 3 0).toNat).1 = 65533 ∧ (decodeN l.length (l.getD 0 0).toNat (l.getD 1 0).toNat (l.getD 2 0).toNat (l.getD 3 0).toNat).2 = 1
  · rw [if_pos hc, if_pos hc, if_pos rfl]
  · rw [if_neg hc, if_neg hc, if_neg (by omega)]
theorem u8N_pre {n b0 b1 b2 b3 n' c0 c1 c2 c3 w : Nat} (hb0 : b0 < 256) (h : u8N n b0 b1 b2 b3 = w) (hw : w ≠ 0) (hl : w ≤ n') (h0 : c0 = b0) (h1 : 1 < w → c1 = b1) (h2 : 2 < w → c2 = b2) (h3 : 3 < w → c3 = b3) (hn : 1 ≤ n) :
    u8N n' c0 c1 c2 c3 = w ∧ w ≤ n := by
  subst h0
  by_cases k0 : c0 < 128
  · rw [u8N_1 k0] at h; subst h; exact ⟨u8N_1 k0, hn⟩
  by_cases k1 : c0 < 192 ∨ 248 ≤ c0
  · rw [u8N_0 (by omega) hb0] at h; exact absurd h.symm hw
  by_cases k2 : c0 < 224
  · rw [u8N_2 (by omega) k2] at h
    split at h
    · subst h
      have := h1 (by omega); subst this
      rw [u8N_2 (by omega) k2, if_pos (by omega)]; omega
    · exact absurd h.symm hw
  by_cases k3 : c0 < 240
  · rw [u8N_3 (by omega) k3 rfl] at h
    split at h
    · subst h
      have := h1 (by omega); subst this
      have := h2 (by omega); subst this
      rw [u8N_3 (by omega) k3 rfl, if_pos (by omega)]; omega
    · exact absurd h.symm hw
  · rw [u8N_4 (by omega) (by omega) rfl] at h
    split at h
    · subst h
      have := h1 (by omega); subst this
      have := h2 (by omega); subst this
      have := h3 (by omega); subst this
      rw [u8N_4 (by omega) (by omega) rfl, if_pos (by omega)]; omega
    · exact absurd h.symm hw
theorem u8L_pre {L L' : List UInt8} (hne : L ≠ []) (hw : u8L L ≠ 0) (hl : u8L L ≤ L'.length) (hp : ∀ k, k < u8L L → L'.getD k 0 = L.getD k 0) : u8L L' = u8L L ∧ u8L L ≤ L.length := by
  have hn : 1 ≤ L.length := by cases L with
    | nil => exact absurd rfl hne
    | cons => simp
  exact u8N_pre (L.getD 0 0).toNat_lt (rfl : u8L L = u8L L) hw hl (by rw [hp 0 (by omega)]) (fun h => by rw [hp 1 h]) (fun h => by rw [hp 2 h]) (fun h => by rw [hp 3 h]) hn
theorem validD_app (m : List UInt8) (hm : validD m = true) : ∀ (n : Nat) (l : List UInt8), l.length ≤ n → validD l = true → validD (l ++ m) = true := by
  intro n
  induction n with
  | zero => intro l hl _; have : l = [] := List.eq_nil_of_length_eq_zero (by omega); subst this; exact hm
  | succ n ih =>
    intro l hl h
    by_cases hne : l = []
    · subst hne; exact hm
    rw [validD_u8 l hne] at h
    split at h
    · cases h
    · rename_i hw
      have hle := (u8L_pre hne hw (L' := l ++ List.replicate (u8L l) 0) (by simp) (fun k hk => by
        by_cases hkl : k < l.length
        · simp [List.getD_eq_getElem?_getD, List.getElem?_append_left hkl]
        · simp only [List.getD_eq_getElem?_getD]
          rw [List.getElem?_append_right (by omega), List.getElem?_eq_none (l := l) (by omega)]
          rw [List.getElem?_replicate]; split <;> rfl)).2
      have he := (u8L_pre hne hw (L' := l ++ m) (by simp; omega) (fun k hk => by
        simp [List.getD_eq_getElem?_getD, List.getElem?_append_left (show k < l.length by omega)])).1
      rw [validD_u8 (l ++ m) (by simp [hne]), he, if_neg hw, List.drop_append_of_le_length hle]
      exact ih _ (by rw [List.length_drop]; omega) h
theorem Utf.app {a b : ByteArray} (ha : Utf a) (hb : Utf b) : Utf (a ++ b) := by
  unfold Utf at *
  have : (a ++ b).data.toList = a.data.toList ++ b.data.toList := by simp
  rw [this]
  exact validD_app _ hb _ _ (Nat.le_refl _) ha
theorem u8L_bat (s : ByteArray) (i : Nat) : u8L (s.data.toList.drop i) = u8 s i := by
  have hg : ∀ k, (s.data.toList.drop i).getD k 0 = bat s (i + k) := fun k => by simp [bat, List.getD, List.getElem?_drop]
  unfold u8L u8
  rw [hg, hg, hg, hg, List.length_drop, Array.length_toList]; rfl
theorem Utf.ext {s : ByteArray} {i : Nat} (h : i < s.size) (hu : ¬ u8 s i = 0) : Utf (s.extract i (i + u8 s i)) := by
  have hne : s.data.toList.drop i ≠ [] := by
    intro e
    have := congrArg List.length e
    rw [List.length_drop, Array.length_toList] at this
    have h' : i < s.data.size := h
    simp at this; omega
  have hle := u8_le h
  have hsz : s.data.size = s.size := rfl
  have hlist : (s.extract i (i + u8 s i)).data.toList = (s.data.toList.drop i).take (u8 s i) := by
    simp [ByteArray.data_extract, List.extract_eq_take_drop]
  have hlen : ((s.data.toList.drop i).take (u8 s i)).length = u8 s i := by simp; omega
  unfold Utf
  rw [hlist]
  have he := (u8L_pre hne (by rw [u8L_bat]; exact hu) (L' := (s.data.toList.drop i).take (u8 s i)) (by rw [hlen, u8L_bat]; exact Nat.le_refl _) (fun k hk => by
    rw [u8L_bat] at hk
    simp only [List.getD_eq_getElem?_getD, List.getElem?_take, hk, if_true])).1
  rw [u8L_bat] at he
  rw [validD_u8 _ (fun e => by rw [e] at hlen; simp at hlen; omega), he, if_neg hu, List.drop_eq_nil_of_le (by omega)]
  rfl
theorem u8b_nat {n : Int} (h0 : 0 ≤ n) (h1 : n < 256) : (u8b n).toNat = n.toNat := by
  have := u8b_toNat h0 h1; omega
theorem Utf.char {v : Int} (h0 : 0 ≤ v) (h1 : v < 1114112) (h2 : ¬ (55296 ≤ v ∧ v < 57344)) : Utf (rchar v) := by
  unfold Utf rchar
  split
  · show validD [u8b v] = true
    rw [validD_cons _ _ (by rw [u8b_nat h0 (by omega)]; omega)]; rfl
  split
  · show validD [u8b (192 + v / 64), u8b (128 + v % 64)] = true
    have e : u8L [u8b (192 + v / 64), u8b (128 + v % 64)] = 2 := by
      show u8N 2 (u8b (192 + v / 64)).toNat (u8b (128 + v % 64)).toNat 0 0 = 2
      rw [u8b_nat (by omega) (by omega), u8b_nat (by omega) (by omega), u8N_2 (by omega) (by omega), if_pos (by omega)]
    rw [validD_u8 _ (by simp), e]; rfl
  split
  · show validD [u8b (224 + v / 4096), u8b (128 + v / 64 % 64), u8b (128 + v % 64)] = true
    have e : u8L [u8b (224 + v / 4096), u8b (128 + v / 64 % 64), u8b (128 + v % 64)] = 3 := by
      show u8N 3 (u8b (224 + v / 4096)).toNat (u8b (128 + v / 64 % 64)).toNat (u8b (128 + v % 64)).toNat 0 = 3
      rw [u8b_nat (by omega) (by omega), u8b_nat (by omega) (by omega), u8b_nat (by omega) (by omega), u8N_3 (by omega) (by omega) rfl, if_pos (by omega)]
    rw [validD_u8 _ (by simp), e]; rfl
  · show validD [u8b (240 + v / 262144), u8b (128 + v / 4096 % 64), u8b (128 + v / 64 % 64), u8b (128 + v % 64)] = true
    have e : u8L [u8b (240 + v / 262144), u8b (128 + v / 4096 % 64), u8b (128 + v / 64 % 64), u8b (128 + v % 64)] = 4 := by
      show u8N 4 (u8b (240 + v / 262144)).toNat (u8b (128 + v / 4096 % 64)).toNat (u8b (128 + v / 64 % 64)).toNat (u8b (128 + v % 64)).toNat = 4
      rw [u8b_nat (by omega) (by omega), u8b_nat (by omega) (by omega), u8b_nat (by omega) (by omega), u8b_nat (by omega) (by omega), u8N_4 (by omega) (by omega) rfl, if_pos (by omega)]
    rw [validD_u8 _ (by simp), e]; rfl
theorem esc_ok {c b : Nat} (h : esc c = some b) : b < 128 := by
  unfold esc at h
  rw [Option.map_eq_some_iff] at h
  obtain ⟨q, hq, rfl⟩ := h
  have := List.mem_of_find?_eq_some hq
  revert this
  have : ∀ q ∈ escL, q.2 < 128 := by decide
  exact this q
theorem Utf.asc {b : Nat} (h : b < 128) : Utf ⟨#[UInt8.ofNat b]⟩ := by
  unfold Utf
  show validD [UInt8.ofNat b] = true
  rw [validD_cons _ _ (by rw [UInt8.toNat_ofNat']; omega)]; rfl
/-- What a text in quotes comes to. -/
def UOK (s : ByteArray) (a : Nat) (u : UR) : Prop := (u.bad = 0 ∧ 0 ≤ u.n ∧ (a : Int) + u.n ≤ s.size ∧ Utf u.s ∧ (u.s.size : Int) ≤ u.n) ∨ ((u.bad = 1 ∨ u.bad = 2) ∧ u.n = 0 ∧ u.s = e0)
theorem unqF_ok (s : ByteArray) (a : Nat) : ∀ (k i : Nat) (out : ByteArray), s.size - i ≤ k → a < i → Utf out → out.size ≤ i - a → UOK s a (unqF s a i out) := by
  intro k
  induction k with
  | zero => intro i out hk hi hu ho; rw [unqF_end (by omega)]; exact .inr ⟨.inl rfl, rfl, rfl⟩
  | succ k ih =>
    intro i out hk hi hu ho
    by_cases h : s.size ≤ i
    · rw [unqF_end h]; exact .inr ⟨.inl rfl, rfl, rfl⟩
    by_cases h1 : (bat s i).toNat = 34
    · rw [unqF_q (by omega) h1]; exact .inl ⟨rfl, by dsimp only; omega, by dsimp only; omega, hu, by dsimp only; omega⟩
    by_cases h2 : (bat s i).toNat < 32
    · rw [unqF_ctl (by omega) h2]; exact .inr ⟨.inl rfl, rfl, rfl⟩
    by_cases h3 : (bat s i).toNat = 92
    · by_cases h4 : i + 1 = s.size
      · rw [unqF_last h4 h3]; exact .inr ⟨.inl rfl, rfl, rfl⟩
      by_cases h5 : (bat s (i + 1)).toNat = 117
      · by_cases h6 : 0 ≤ (rhex s (i + 2)).2
        · rw [unqF_hb (by omega) h3 h5 h6]; exact .inr ⟨.inl rfl, rfl, rfl⟩
        have hx := rhex_ok s (i + 2)
        have hl := rlow_ok s (i + 6)
        by_cases h7 : 55296 ≤ (rhex s (i + 2)).1 ∧ (rhex s (i + 2)).1 < 56320 ∧ 0 ≤ rlow s (i + 6)
        · rw [unqF_pair (by omega) h3 h5 (by omega) h7]
          have hs := rchar_size (65536 + 1024 * ((rhex s (i + 2)).1 - 55296) + rlow s (i + 6) - 56320)
          exact ih _ _ (by omega) (by omega) (hu.app (Utf.char (by omega) (by omega) (by omega))) (by rw [ByteArray.size_append]; omega)
        by_cases h8 : 55296 ≤ (rhex s (i + 2)).1 ∧ (rhex s (i + 2)).1 < 57344
        · rw [unqF_sur (by omega) h3 h5 (by omega) h7 h8]; exact .inr ⟨.inr rfl, rfl, rfl⟩
        · rw [unqF_u (by omega) h3 h5 (by omega) h7 h8]
          have hs := rchar_size (rhex s (i + 2)).1
          exact ih _ _ (by omega) (by omega) (hu.app (Utf.char (by omega) (by omega) h8)) (by rw [ByteArray.size_append]; omega)
      · cases h6 : esc (bat s (i + 1)).toNat with
        | none => rw [unqF_eb (by omega) h3 h5 h6]; exact .inr ⟨.inl rfl, rfl, rfl⟩
        | some b =>
          rw [unqF_e (by omega) h3 h5 h6]
          have h1b : (ByteArray.mk #[UInt8.ofNat b]).size = 1 := rfl
          exact ih _ _ (by omega) (by omega) (hu.app (Utf.asc (esc_ok h6))) (by rw [ByteArray.size_append]; omega)
    · by_cases h4 : u8 s i = 0
      · rw [unqF_bad (by omega) h1 (by omega) h3 h4]; exact .inr ⟨.inr rfl, rfl, rfl⟩
      · rw [unqF_plain (by omega) h1 (by omega) h3 h4]
        exact ih _ _ (by omega) (by omega) (hu.app (Utf.ext (by omega) h4)) (by rw [ByteArray.size_append, ByteArray.size_extract]; omega)
theorem rUnq_ok (s : ByteArray) (a : Nat) : UOK s a (rUnq s (a : Int)) := by
  unfold rUnq
  split
  · exact .inr ⟨.inl rfl, rfl, rfl⟩
  split
  · exact .inr ⟨.inl rfl, rfl, rfl⟩
  · rw [Int.toNat_natCast]
    exact unqF_ok s a _ _ _ (Nat.le_refl _) (by omega) rfl (Nat.zero_le _)
end Lg
namespace Lg
open Go
/-! ### The reader, plainly -/
structure RS where
  a : Nat
  deep : Int
  bad : Int
  spot : Int
abbrev rbox (s : ByteArray) (r : RS) : AO := .box [.str s, .int .i64 (r.a : Int), .int .i64 r.deep, .int .i64 r.bad, .int .i64 r.spot]
def rfail (r : RS) (a b : Int) : RS := ⟨r.a, r.deep, if r.bad = 0 then b else r.bad, if r.bad = 0 then a else r.spot⟩
def rblank (s : ByteArray) (r : RS) : RS := ⟨if r.bad = 0 then blk s r.a else r.a, r.deep, r.bad, r.spot⟩
def ropen (s : ByteArray) (r : RS) : RS :=
  ⟨if (if r.deep = 32 then (if r.bad = 0 then 3 else r.bad) else r.bad) = 0 then blk s (r.a + 1) else r.a + 1, r.deep + 1, if r.deep = 32 then (if r.bad = 0 then 3 else r.bad) else r.bad, if r.deep = 32 then (if r.bad = 0 then (r.a : Int) else r.spot) else r.spot⟩
def rinc (r : RS) : RS := ⟨r.a + 1, r.deep, r.bad, r.spot⟩
def wstep (s : ByteArray) (c : UInt8) (r : RS) : RS := if pkv s r.a r.bad = c.toNat then rinc r else rinc (rfail r r.a 1)
def wantF (s lit : ByteArray) (i : Nat) (r : RS) : RS := if i < lit.size ∧ r.bad = 0 then wantF s lit (i + 1) (wstep s (bat lit i) r) else r
termination_by lit.size - i
def rwant (s lit : ByteArray) (r : RS) : RS := wantF s lit 0 r
def rtext (s : ByteArray) (r : RS) : ByteArray × RS :=
  if r.bad = 0 then ((rUnq s r.a).s, ⟨r.a + (rUnq s r.a).n.toNat, r.deep, (rUnq s r.a).bad, if (rUnq s r.a).bad = 0 then r.spot else (rUnq s r.a).at_⟩) else (e0, r)
def rdec (r : RS) : RS := ⟨r.a, r.deep - 1, r.bad, r.spot⟩
section
variable (rv : RS → JV × RS) (s : ByteArray)
def rarrF : Nat → List JV → RS → List JV × RS
  | 0, l, r => (l, r)
  | k + 1, l, r => if r.bad = 0 ∧ (¬ pkv s r.a r.bad = 93 ∨ 0 < l.length) then
      (if pkv s (rv r).2.a (rv r).2.bad = 44 then rarrF k (l ++ [(rv r).1]) (rinc (rv r).2) else (l ++ [(rv r).1], (rv r).2))
    else (l, r)
def rb1 : ByteArray := ⟨#[93]⟩
def rb2 : ByteArray := ⟨#[125]⟩
def rb3 : ByteArray := ⟨#[58]⟩
def rarr (r : RS) : JV × RS := (.mk 4 false {} e0 (rarrF rv s (s.size + 2) [] (ropen s r)).1 [], rdec (rwant s rb1 (rarrF rv s (s.size + 2) [] (ropen s r)).2))
def rinsK (m : List (ByteArray × JV)) (key : ByteArray) : Nat := (m.takeWhile fun q => blt q.1 key).length
def rins (m : List (ByteArray × JV)) (key : ByteArray) (x : JV) : List (ByteArray × JV) := m.take (rinsK m key) ++ (key, x) :: m.drop (rinsK m key)
def mkO (m : List (ByteArray × JV)) : JV := .mk 5 false {} e0 [] m
/-- Behind a member's key: a key that was there is amiss. -/
def rk2 (m : List (ByteArray × JV)) (r : RS) : RS := if (jfind (mkO m) (rtext s (rblank s r)).1).isSome = true then rfail (rtext s (rblank s r)).2 (rblank s r).a 4 else (rtext s (rblank s r)).2
/-- A member's key, and what stands behind it: up to its value. -/
def rkey (m : List (ByteArray × JV)) (r : RS) : ByteArray × RS := ((rtext s (rblank s r)).1, rwant s rb3 (rblank s (rk2 s m r)))
def robjF : Nat → List (ByteArray × JV) → RS → List (ByteArray × JV) × RS
  | 0, m, r => (m, r)
  | k + 1, m, r => if r.bad = 0 ∧ (¬ pkv s r.a r.bad = 125 ∨ 0 < m.length) then
      (if pkv s (rv (rkey s m r).2).2.a (rv (rkey s m r).2).2.bad = 44 then robjF k (rins m (rkey s m r).1 (rv (rkey s m r).2).1) (rinc (rv (rkey s m r).2).2) else (rins m (rkey s m r).1 (rv (rkey s m r).2).1, (rv (rkey s m r).2).2))
    else (m, r)
def robj (r : RS) : JV × RS := (mkO (robjF rv s (s.size + 2) [] (ropen s r)).1, rdec (rwant s rb2 (robjF rv s (s.size + 2) [] (ropen s r)).2))
end
def lNull : ByteArray := ⟨#[110, 117, 108, 108]⟩
def lTrue : ByteArray := ⟨#[116, 114, 117, 101]⟩
def lFalse : ByteArray := ⟨#[102, 97, 108, 115, 101]⟩
noncomputable def rnumv (s : ByteArray) (r : RS) : JV × RS :=
  (.mk 2 false (rNum (s.extract r.a (rEnd s r.a).1)).1 e0 [] [],
   ⟨(rEnd s r.a).1, r.deep, (if (rNum (s.extract r.a (rEnd s r.a).1)).2 = 0 then (if (rEnd s r.a).2 = true then r else rfail r (rEnd s r.a).1 1) else rfail (if (rEnd s r.a).2 = true then r else rfail r (rEnd s r.a).1 1) r.a 5).bad,
    (if (rNum (s.extract r.a (rEnd s r.a).1)).2 = 0 then (if (rEnd s r.a).2 = true then r else rfail r (rEnd s r.a).1 1) else rfail (if (rEnd s r.a).2 = true then r else rfail r (rEnd s r.a).1 1) r.a 5).spot⟩)
/-- What a byte begins. -/
noncomputable def rone (rv : RS → JV × RS) (s : ByteArray) (r : RS) : JV × RS :=
  if pkv s r.a r.bad = 123 then robj rv s r else
  if pkv s r.a r.bad = 91 then rarr rv s r else
  if pkv s r.a r.bad = 34 then (.mk 3 false {} (rtext s r).1 [] [], (rtext s r).2) else
  if pkv s r.a r.bad = 110 then (vz, rwant s lNull r) else
  if pkv s r.a r.bad = 116 then (.mk 1 true {} e0 [] [], rwant s lTrue r) else
  if pkv s r.a r.bad = 102 then (.mk 1 false {} e0 [] [], rwant s lFalse r) else
  if pkv s r.a r.bad = 45 ∨ (48 ≤ pkv s r.a r.bad ∧ pkv s r.a r.bad ≤ 57) then rnumv s r else (vz, rfail r r.a 1)
noncomputable def rval : Nat → ByteArray → RS → JV × RS
  | 0, s, r => (vz, r)
  | n + 1, s, r => ((rone (rval n s) s (rblank s r)).1, rblank s (rone (rval n s) s (rblank s r)).2)
noncomputable def rpar (s : ByteArray) : JV × RS := rval (s.size + 2) s ⟨0, 0, 0, 0⟩
noncomputable def rparE (s : ByteArray) : RS := if (rpar s).2.bad = 0 ∧ (rpar s).2.a < s.size then rfail (rpar s).2 (rpar s).2.a 1 else (rpar s).2
noncomputable def rParse (s : ByteArray) : JV × Int × Int :=
  if 20000 < s.size then (vz, 5, 20000) else if (rparE s).bad = 0 then ((rpar s).1, 0, 0) else (vz, (rparE s).bad, (rparE s).spot)

/-! ### How far the reader comes -/
structure ROK (s : ByteArray) (r : RS) : Prop where
  a : r.a ≤ s.size + 1
  b : r.bad = 0 → r.a ≤ s.size
  d0 : 0 ≤ r.deep
  d1 : r.deep ≤ r.a
/-- From r on to r'. -/
structure RTo (s : ByteArray) (r r' : RS) : Prop where
  a : r.a ≤ r'.a
  ok : ROK s r'
  b : r'.bad = 0 → r.bad = 0
theorem RTo.refl {s : ByteArray} {r : RS} (h : ROK s r) : RTo s r r := ⟨Nat.le_refl _, h, id⟩
theorem RTo.trans {s : ByteArray} {r r' r'' : RS} (h : RTo s r r') (k : RTo s r' r'') : RTo s r r'' := ⟨Nat.le_trans h.a k.a, k.ok, fun e => h.b (k.b e)⟩
theorem rfail_bad {r : RS} {a b : Int} (hb : b ≠ 0) : (rfail r a b).bad ≠ 0 := by
  unfold rfail; dsimp only; split <;> assumption
theorem rfail_to {s : ByteArray} {r : RS} (h : ROK s r) {a b : Int} (hb : b ≠ 0) : RTo s r (rfail r a b) := by
  have hbad := rfail_bad (r := r) (a := a) hb
  exact ⟨Nat.le_refl _, ⟨h.a, fun e => absurd e hbad, h.d0, h.d1⟩, fun e => absurd e hbad⟩
theorem rblank_to {s : ByteArray} {r : RS} (h : ROK s r) : RTo s r (rblank s r) := by
  have h1 := blk_le s r.a
  have h2 := h.a; have h3 := h.d1
  by_cases hb : r.bad = 0
  · have h4 := h.b hb
    refine ⟨?_, ⟨?_, ?_, h.d0, ?_⟩, fun _ => hb⟩ <;> simp only [rblank, if_pos hb] <;> omega
  · refine ⟨?_, ⟨?_, ?_, h.d0, ?_⟩, id⟩ <;> simp only [rblank, if_neg hb] <;> omega
theorem rblank_deep (s : ByteArray) (r : RS) : (rblank s r).deep = r.deep := rfl
theorem ropen_to {s : ByteArray} {r : RS} (h : ROK s r) (hb : r.bad = 0) (ha : r.a < s.size) : RTo s r (ropen s r) ∧ r.a + 1 ≤ (ropen s r).a ∧ (ropen s r).deep = r.deep + 1 := by
  have h1 := blk_le s (r.a + 1)
  have h2 := h.d1; have h3 := h.d0
  by_cases hd : r.deep = 32
  · have e : ropen s r = ⟨r.a + 1, r.deep + 1, 3, r.a⟩ := by simp [ropen, hd, hb]
    rw [e]
    exact ⟨⟨by dsimp only; omega, ⟨by dsimp only; omega, fun e => absurd e (show ¬ (3 : Int) = 0 by decide), by dsimp only; omega, by dsimp only; omega⟩, fun e => absurd e (show ¬ (3 : Int) = 0 by decide)⟩, Nat.le_refl _, rfl⟩
  · have e : ropen s r = ⟨blk s (r.a + 1), r.deep + 1, 0, r.spot⟩ := by simp [ropen, hd, hb]
    rw [e]
    exact ⟨⟨by dsimp only; omega, ⟨by dsimp only; omega, fun _ => by dsimp only; omega, by dsimp only; omega, by dsimp only; omega⟩, fun _ => hb⟩, by dsimp only; omega, rfl⟩
theorem rinc_to {s : ByteArray} {r : RS} (h : ROK s r) (ha : 0 ≤ pkv s r.a r.bad) : RTo s r (rinc r) := by
  have h1 := pk_yes ha
  have h2 := h.d1
  exact ⟨by dsimp only [rinc]; omega, ⟨by dsimp only [rinc]; omega, fun _ => by dsimp only [rinc]; omega, h.d0, by dsimp only [rinc]; omega⟩, id⟩
theorem wstep_to {s : ByteArray} {c : UInt8} {r : RS} (h : ROK s r) (hb : r.bad = 0) : RTo s r (wstep s c r) ∧ (wstep s c r).deep = r.deep := by
  have h2 := h.d1; have h3 := h.b hb
  unfold wstep
  split
  · rename_i hp; exact ⟨rinc_to h (by omega), rfl⟩
  · have hbad := rfail_bad (r := r) (a := (r.a : Int)) (b := 1) (by decide)
    exact ⟨⟨by dsimp only [rinc, rfail]; omega, ⟨by dsimp only [rinc, rfail]; omega, fun e => absurd e hbad, h.d0, by dsimp only [rinc, rfail]; omega⟩, fun _ => hb⟩, rfl⟩
theorem wantF_to {s lit : ByteArray} : ∀ (k i : Nat) (r : RS), lit.size - i ≤ k → ROK s r → RTo s r (wantF s lit i r) ∧ (wantF s lit i r).deep = r.deep := by
  intro k
  induction k with
  | zero => intro i r hk h; rw [wantF, if_neg (by omega)]; exact ⟨.refl h, rfl⟩
  | succ k ih =>
    intro i r hk h
    rw [wantF]
    split
    · rename_i hc
      have h1 := wstep_to (s := s) (c := bat lit i) h hc.2
      have h2 := ih (i + 1) _ (by omega) h1.1.ok
      exact ⟨h1.1.trans h2.1, h2.2.trans h1.2⟩
    · exact ⟨.refl h, rfl⟩
theorem rwant_to {s lit : ByteArray} {r : RS} (h : ROK s r) : RTo s r (rwant s lit r) ∧ (rwant s lit r).deep = r.deep := wantF_to _ 0 r (Nat.le_refl _) h
/-- A bracket that is wanted is gone over. -/
theorem rwant1 {s lit : ByteArray} {r : RS} (h : ROK s r) (h1 : lit.size = 1) (hb : r.bad = 0) : r.a + 1 ≤ (rwant s lit r).a := by
  have e : rwant s lit r = wstep s (bat lit 0) r := by
    unfold rwant
    rw [wantF, if_pos ⟨by omega, hb⟩, wantF, if_neg (by omega)]
  rw [e]; unfold wstep; split <;> exact Nat.le_refl _
theorem rtext_to {s : ByteArray} {r : RS} (h : ROK s r) : RTo s r (rtext s r).2 ∧ (rtext s r).2.deep = r.deep ∧ Utf (rtext s r).1 ∧ r.a + (rtext s r).1.size ≤ (rtext s r).2.a := by
  have h2 := h.d1; have h4 := h.a
  unfold rtext
  split
  · rename_i hb
    have h3 := h.b hb
    rcases rUnq_ok s r.a with ⟨q1, q2, q3, q4, q5⟩ | ⟨q1, q2, q3⟩
    · exact ⟨⟨by dsimp only; omega, ⟨by dsimp only; omega, fun _ => by dsimp only; omega, h.d0, by dsimp only; omega⟩, fun _ => hb⟩, rfl, q4, by dsimp only; omega⟩
    · exact ⟨⟨by dsimp only; omega, ⟨by dsimp only; omega, fun e => by dsimp only at e; omega, h.d0, by dsimp only; omega⟩, fun _ => hb⟩, rfl, by dsimp only; rw [q3]; rfl, by dsimp only; rw [q3]; show r.a + 0 ≤ _; omega⟩
  · exact ⟨.refl h, rfl, rfl, Nat.le_refl _⟩
end Lg
namespace Lg
open Go
variable [GLay]
/-! ### What is read may be -/
theorem bytesLess_trans : ∀ (a b c : List UInt8), Op.bytesLess a b = true → Op.bytesLess b c = true → Op.bytesLess a c = true
  | [], [], _, h, _ => by simp [Op.bytesLess] at h
  | [], _ :: _, [], _, h => by simp [Op.bytesLess] at h
  | [], _ :: _, _ :: _, _, _ => by simp [Op.bytesLess]
  | _ :: _, [], _, h, _ => by simp [Op.bytesLess] at h
  | _ :: _, _ :: _, [], _, h => by simp [Op.bytesLess] at h
  | x :: a, y :: b, z :: c, h, k => by
    simp only [Op.bytesLess] at h k ⊢
    have ih := bytesLess_trans a b c
    have e1 : ∀ u v : UInt8, (u < v) = (u.toNat < v.toNat) := fun u v => by rw [UInt8.lt_iff_toNat_lt]
    have e2 : ∀ u v : UInt8, (u = v) = (u.toNat = v.toNat) := fun u v => by rw [UInt8.toNat_inj]
    simp only [e1, beq_iff_eq, e2, Bool.if_true_left, Bool.or_eq_true, decide_eq_true_eq, Bool.and_eq_true, Bool.if_false_right] at h k ⊢
    rcases h with h | h <;> rcases k with k | k
    · left; omega
    · left; omega
    · left; omega
    · right; exact ⟨by omega, ih h.2 k.2⟩
theorem blt_trans {a b c : ByteArray} (h : blt a b = true) (k : blt b c = true) : blt a c = true := bytesLess_trans _ _ _ h k
theorem vz_may : jmay vz := (jmay_eq vz).2 ⟨⟨by decide, by decide, by decide, zmay, zutf⟩, fun j q hj => absurd hj (by simp [vz, JV.m]), fun i x hx => by simp [vz, JV.l] at hx⟩
theorem may_b (b : Bool) : jmay (.mk 1 b {} e0 [] []) := (jmay_eq _).2 ⟨⟨by simp [JV.kind], by simp [JV.kind], by cases b <;> decide, zmay, zutf⟩, fun j q hj => absurd hj (by simp [JV.m]), fun i x hx => by simp [JV.l] at hx⟩
theorem may_s {t : ByteArray} (h : Utf t) : jmay (.mk 3 false {} t [] []) := (jmay_eq _).2 ⟨⟨by simp [JV.kind], by simp [JV.kind], by simp [jbare, JV.kind, JV.b, JV.n, JV.s, JV.l, JV.m, JNum.z], zmay, h⟩, fun j q hj => absurd hj (by simp [JV.m]), fun i x hx => by simp [JV.l] at hx⟩
theorem may_n {n : JNum} (h : NumMay n) : jmay (.mk 2 false n e0 [] []) := (jmay_eq _).2 ⟨⟨by simp [JV.kind], by simp [JV.kind], by simp [jbare, JV.kind, JV.b, JV.n, JV.s, JV.l, JV.m, e0], h, zutf⟩, fun j q hj => absurd hj (by simp [JV.m]), fun i x hx => by simp [JV.l] at hx⟩
theorem may_l {l : List JV} (h : lmay l) : jmay (.mk 4 false {} e0 l []) := (jmay_eq _).2 ⟨⟨by simp [JV.kind], by simp [JV.kind], by simp [jbare, JV.kind, JV.b, JV.n, JV.s, JV.l, JV.m, JNum.z, e0], zmay, zutf⟩, fun j q hj => absurd hj (by simp [JV.m]), fun i x hx => (lmay_iff l).1 h i x hx⟩
/-- Members that may be: their keys rise. -/
def MOK (m : List (ByteArray × JV)) : Prop := (∀ q ∈ m, Utf q.1 ∧ jmay q.2) ∧ m.Pairwise fun p q => blt p.1 q.1 = true
theorem MOK.mok {m : List (ByteArray × JV)} (h : MOK m) : mok m m.length := fun j q _ hq => by
  have hm := h.1 q (List.mem_of_getElem? hq)
  refine ⟨⟨hm.1, fun q' hj hq' => ?_⟩, hm.2⟩
  obtain ⟨h1, rfl⟩ := List.getElem?_eq_some_iff.1 hq
  obtain ⟨h2, rfl⟩ := List.getElem?_eq_some_iff.1 hq'
  exact List.pairwise_iff_getElem.1 h.2 (j - 1) j h2 h1 (by omega)
theorem may_m {m : List (ByteArray × JV)} (h : MOK m) : jmay (mkO m) := (jmay_eq _).2 ⟨⟨by simp [mkO, JV.kind], by simp [mkO, JV.kind], by simp [mkO, jbare, JV.kind, JV.b, JV.n, JV.s, JV.l, JV.m, JNum.z, e0], zmay, zutf⟩, h.mok, fun i x hx => by simp [mkO, JV.l] at hx⟩
theorem rins_nil (key : ByteArray) (x : JV) : rins [] key x = [(key, x)] := rfl
theorem rins_cons (q : ByteArray × JV) (m : List (ByteArray × JV)) (key : ByteArray) (x : JV) : rins (q :: m) key x = if blt q.1 key = true then q :: rins m key x else (key, x) :: q :: m := by
  unfold rins rinsK
  by_cases h : blt q.1 key = true
  · simp [List.takeWhile_cons, h]
  · simp [List.takeWhile_cons, h]
theorem rins_mem {m : List (ByteArray × JV)} {key : ByteArray} {x : JV} : ∀ q ∈ rins m key x, q ∈ m ∨ q = (key, x) := by
  induction m with
  | nil => intro q hq; rw [rins_nil] at hq; exact .inr (List.mem_singleton.1 hq)
  | cons p m ih =>
    intro q hq
    rw [rins_cons] at hq
    split at hq
    · rcases List.mem_cons.1 hq with rfl | h
      · exact .inl (List.mem_cons_self ..)
      · exact (ih q h).imp (List.mem_cons_of_mem _) id
    · rcases List.mem_cons.1 hq with rfl | h
      · exact .inr rfl
      · exact .inl h
theorem rins_pw {m : List (ByteArray × JV)} {key : ByteArray} {x : JV} (h : m.Pairwise fun p q => blt p.1 q.1 = true) (hk : ∀ q ∈ m, ¬ q.1 = key) : (rins m key x).Pairwise fun p q => blt p.1 q.1 = true := by
  induction m with
  | nil => rw [rins_nil]; exact List.pairwise_singleton _ _
  | cons p m ih =>
    rw [rins_cons]
    obtain ⟨h1, h2⟩ := List.pairwise_cons.1 h
    split
    · rename_i hl
      refine List.pairwise_cons.2 ⟨fun q hq => ?_, ih h2 fun q hq => hk q (List.mem_cons_of_mem _ hq)⟩
      rcases rins_mem q hq with h3 | rfl
      · exact h1 q h3
      · exact hl
    · rename_i hl
      have hlt : blt key p.1 = true := bytesLess_total _ _ (by simpa [blt] using hl) fun e => hk p (List.mem_cons_self ..) (by
        have := ba_beq p.1 key
        rw [e] at this; simpa using this)
      refine List.pairwise_cons.2 ⟨fun q hq => ?_, h⟩
      rcases List.mem_cons.1 hq with rfl | h3
      · exact hlt
      · exact blt_trans hlt (h1 q h3)
theorem MOK.ins {m : List (ByteArray × JV)} {key : ByteArray} {x : JV} (h : MOK m) (h1 : Utf key) (h2 : jmay x) (hk : ∀ q ∈ m, ¬ q.1 = key) : MOK (rins m key x) :=
  ⟨fun q hq => by
    rcases rins_mem q hq with h3 | rfl
    · exact h.1 q h3
    · exact ⟨h1, h2⟩, rins_pw h.2 hk⟩
theorem msize_ins (m : List (ByteArray × JV)) (key : ByteArray) (x : JV) : msize (rins m key x) = msize m + jsize x := by
  induction m with
  | nil => rw [rins_nil]; simp [msize]
  | cons p m ih =>
    obtain ⟨k, v⟩ := p
    rw [rins_cons]
    split
    · simp only [msize, ih]; omega
    · simp only [msize]; omega
theorem mb_ins {m : List (ByteArray × JV)} {key : ByteArray} {x : JV} (h : mb m) (h1 : key.size ≤ 1000000) (h2 : jb x) : mb (rins m key x) := by
  induction m with
  | nil => rw [rins_nil]; exact ⟨h1, h2, trivial⟩
  | cons p m ih =>
    obtain ⟨k, v⟩ := p
    rw [rins_cons]
    split
    · exact ⟨h.1, h.2.1, ih h.2.2⟩
    · exact ⟨h1, h2, h⟩
theorem lsize_snoc (l : List JV) (x : JV) : lsize (l ++ [x]) = lsize l + jsize x := by
  induction l with
  | nil => simp [lsize]
  | cons a l ih => simp only [List.cons_append, lsize, ih]; omega
theorem lcells_snoc (l : List JV) (x : JV) : (lcells (l ++ [x])).flatten = (lcells l).flatten ++ vcells x := by
  rw [lcells_eq, lcells_eq]; simp
theorem lflat_len (l : List JV) : (lcells l).flatten.length = l.length * 8 := by
  induction l with
  | nil => simp [lcells]
  | cons a l ih => simp only [lcells, List.flatten_cons, List.length_append, ih, vlen, List.length_cons]; omega
theorem ltL_append (n : Nat) (a b : List AV) : AV.ltL n (a ++ b) ↔ AV.ltL n a ∧ AV.ltL n b := by
  induction a with
  | nil => simp [AV.ltL]
  | cons x a ih => simp only [List.cons_append, AV.ltL, ih, and_assoc]
theorem lflat_lt (n : Nat) (l : List JV) : AV.ltL n (lcells l).flatten := by
  induction l with
  | nil => simp [lcells, AV.ltL]
  | cons a l ih => simp only [lcells, List.flatten_cons, ltL_append]; exact ⟨vcells_lt n a, ih⟩
theorem lrow_len (l : List JV) : ∀ r ∈ lcells l, r.length = 8 := fun r hr => by
  rw [lcells_eq] at hr
  obtain ⟨v, _, rfl⟩ := List.mem_map.1 hr
  exact vlen v
theorem lb_snoc {l : List JV} {x : JV} (h : lb l) (hx : jb x) : lb (l ++ [x]) := by
  induction l with
  | nil => exact ⟨hx, trivial⟩
  | cons a l ih => exact ⟨h.1, ih h.2⟩
theorem lmay_snoc {l : List JV} {x : JV} (h : lmay l) (hx : jmay x) : lmay (l ++ [x]) := by
  induction l with
  | nil => exact ⟨hx, trivial⟩
  | cons a l ih => exact ⟨h.1, ih h.2⟩
theorem jfind_none {m : List (ByteArray × JV)} {key : ByteArray} (h : jfind (mkO m) key = none) : ∀ q ∈ m, ¬ q.1 = key := fun q hq e => by
  have h' : (m.find? fun q => decide (q.1 = key)) = none := by
    unfold jfind at h
    rw [if_pos (show (mkO m).kind = 5 from rfl)] at h
    simpa [mkO, JV.m] using h
  have := List.find?_eq_none.1 h' q hq
  simp [e] at this
/-- What a value's reading comes to. -/
structure VR (s : ByteArray) (r : RS) (x : JV × RS) : Prop where
  fwd : RTo s r x.2
  deep : x.2.deep = r.deep
  jb : jb x.1
  size : jsize x.1 ≤ (x.2.a : Int) - r.a + 1
  may : x.2.bad = 0 → jmay x.1
section
variable {rv : RS → JV × RS} {s : ByteArray} (hs : s.size ≤ 100000) (hrv : ∀ r, ROK s r → VR s r (rv r))
include hrv
theorem rarrF_ok : ∀ (k : Nat) (l : List JV) (r : RS), ROK s r → lb l → (r.bad = 0 → lmay l) →
    RTo s r (rarrF rv s k l r).2 ∧ (rarrF rv s k l r).2.deep = r.deep ∧ lb (rarrF rv s k l r).1 ∧ lsize (rarrF rv s k l r).1 ≤ lsize l + ((rarrF rv s k l r).2.a : Int) - r.a + 1 ∧ ((rarrF rv s k l r).2.bad = 0 → lmay (rarrF rv s k l r).1) := by
  intro k
  induction k with
  | zero => intro l r h h1 h2; exact ⟨.refl h, rfl, h1, by dsimp only [rarrF]; omega, h2⟩
  | succ k ih =>
    intro l r h h1 h2
    rw [rarrF]
    have hv := hrv r h
    split
    · split
      · rename_i hp
        have hi := rinc_to hv.fwd.ok (by omega)
        obtain ⟨q1, q2, q3, q4, q5⟩ := ih (l ++ [(rv r).1]) (rinc (rv r).2) hi.ok (lb_snoc h1 hv.jb) (fun e => lmay_snoc (h2 (hv.fwd.b e)) (hv.may e))
        refine ⟨hv.fwd.trans (hi.trans q1), q2.trans hv.deep, q3, ?_, q5⟩
        rw [lsize_snoc] at q4
        have := hv.size
        have h5 : (rinc (rv r).2).a = (rv r).2.a + 1 := rfl
        omega
      · refine ⟨hv.fwd, hv.deep, lb_snoc h1 hv.jb, ?_, fun e => lmay_snoc (h2 (hv.fwd.b e)) (hv.may e)⟩
        rw [lsize_snoc]; have := hv.size; dsimp only; omega
    · exact ⟨.refl h, rfl, h1, by dsimp only; omega, h2⟩
include hs
theorem rarr_ok {r : RS} (h : ROK s r) (hb : r.bad = 0) (ha : r.a < s.size) : VR s r (rarr rv s r) := by
  obtain ⟨o1, o2, o3⟩ := ropen_to h hb ha
  obtain ⟨q1, q2, q3, q4, q5⟩ := rarrF_ok hrv (s.size + 2) [] (ropen s r) o1.ok trivial (fun _ => trivial)
  obtain ⟨w1, w2⟩ := rwant_to (lit := rb1) q1.ok
  unfold rarr
  have hll := llen_le (rarrF rv s (s.size + 2) [] (ropen s r)).1
  have e0l : lsize [] = 0 := rfl
  have ha1 := w1.ok.a; have ha2 := w1.a
  have hd := h.d0; have hd1 := h.d1
  refine ⟨⟨?_, ⟨ha1, w1.ok.b, ?_, ?_⟩, fun e => o1.b (q1.b (w1.b e))⟩, ?_, ?_, ?_, fun e => may_l (q5 (w1.b e))⟩
  · have := q1.a; dsimp only [rdec]; omega
  · dsimp only [rdec]; omega
  · have := w1.ok.d1; dsimp only [rdec]; omega
  · dsimp only [rdec]; omega
  · rw [jb_eq]; simp only [JV.n, JV.s, JV.l, JV.m, mb, and_true]
    exact ⟨Nat.zero_le _, Nat.zero_le _, by omega, Nat.zero_le _, q3⟩
  · simp only [jsize, msize, rdec]; omega
omit hs in
theorem rkey_ok {m : List (ByteArray × JV)} {r : RS} (h : ROK s r) : RTo s r (rkey s m r).2 ∧ (rkey s m r).2.deep = r.deep ∧ (rkey s m r).1.size + r.a ≤ (rkey s m r).2.a ∧ Utf (rkey s m r).1 ∧ ((rkey s m r).2.bad = 0 → ∀ q ∈ m, ¬ q.1 = (rkey s m r).1) := by
  have b1 := rblank_to h
  obtain ⟨t1, t2, t3, t4⟩ := rtext_to b1.ok
  have hb1 := b1.a
  unfold rkey rk2
  by_cases hf : (jfind (mkO m) (rtext s (rblank s r)).1).isSome = true
  · simp only [if_pos hf]
    have f1 := rfail_to (a := (rblank s r).a) (b := 4) t1.ok (by decide)
    have b2 := rblank_to f1.ok
    obtain ⟨w1, w2⟩ := rwant_to (lit := rb3) b2.ok
    refine ⟨b1.trans (t1.trans (f1.trans (b2.trans w1))), w2.trans t2, ?_, t3, fun e => absurd (b2.b (w1.b e)) (rfail_bad (by decide))⟩
    have := w1.a; have := b2.a; have := f1.a; omega
  · simp only [if_neg hf]
    have b2 := rblank_to t1.ok
    obtain ⟨w1, w2⟩ := rwant_to (lit := rb3) b2.ok
    refine ⟨b1.trans (t1.trans (b2.trans w1)), w2.trans t2, ?_, t3, fun _ => jfind_none (by simpa using hf)⟩
    have := w1.a; have := b2.a; omega
omit hs hrv in
theorem rk2_ok {m : List (ByteArray × JV)} {r : RS} (h : ROK s r) : RTo s r (rk2 s m r) ∧ (rk2 s m r).deep = r.deep := by
  have b1 := rblank_to h
  obtain ⟨t1, t2, t3, t4⟩ := rtext_to b1.ok
  unfold rk2
  split
  · exact ⟨b1.trans (t1.trans (rfail_to t1.ok (by decide))), t2⟩
  · exact ⟨b1.trans t1, t2⟩
include hs
theorem robjF_ok : ∀ (k : Nat) (m : List (ByteArray × JV)) (r : RS), ROK s r → mb m → (r.bad = 0 → MOK m) →
    RTo s r (robjF rv s k m r).2 ∧ (robjF rv s k m r).2.deep = r.deep ∧ mb (robjF rv s k m r).1 ∧ msize (robjF rv s k m r).1 ≤ msize m + ((robjF rv s k m r).2.a : Int) - r.a + 1 ∧ ((robjF rv s k m r).2.bad = 0 → MOK (robjF rv s k m r).1) := by
  intro k
  induction k with
  | zero => intro m r h h1 h2; exact ⟨.refl h, rfl, h1, by dsimp only [robjF]; omega, h2⟩
  | succ k ih =>
    intro m r h h1 h2
    rw [robjF]
    obtain ⟨k1, k2, k3, k4, k5⟩ := rkey_ok hrv (m := m) h
    have hv := hrv _ k1.ok
    have hk1 := k1.a; have hk6 := k1.ok.a
    have hins : (rv (rkey s m r).2).2.bad = 0 → MOK (rins m (rkey s m r).1 (rv (rkey s m r).2).1) := fun e => (h2 (k1.b (hv.fwd.b e))).ins k4 (hv.may e) (k5 (hv.fwd.b e))
    split
    · split
      · rename_i hp
        have hi := rinc_to hv.fwd.ok (by omega)
        obtain ⟨q1, q2, q3, q4, q5⟩ := ih (rins m (rkey s m r).1 (rv (rkey s m r).2).1) (rinc (rv (rkey s m r).2).2) hi.ok (mb_ins h1 (by omega) hv.jb) hins
        refine ⟨k1.trans (hv.fwd.trans (hi.trans q1)), q2.trans (hv.deep.trans k2), q3, ?_, q5⟩
        rw [msize_ins] at q4
        have := hv.size
        have h5 : (rinc (rv (rkey s m r).2).2).a = (rv (rkey s m r).2).2.a + 1 := rfl
        omega
      · refine ⟨k1.trans hv.fwd, hv.deep.trans k2, mb_ins h1 (by omega) hv.jb, ?_, hins⟩
        rw [msize_ins]; have := hv.size; dsimp only; omega
    · exact ⟨.refl h, rfl, h1, by dsimp only; omega, h2⟩
theorem robj_ok {r : RS} (h : ROK s r) (hb : r.bad = 0) (ha : r.a < s.size) : VR s r (robj rv s r) := by
  obtain ⟨o1, o2, o3⟩ := ropen_to h hb ha
  obtain ⟨q1, q2, q3, q4, q5⟩ := robjF_ok hs hrv (s.size + 2) [] (ropen s r) o1.ok trivial (fun _ => ⟨fun q hq => by simp at hq, List.Pairwise.nil⟩)
  obtain ⟨w1, w2⟩ := rwant_to (lit := rb2) q1.ok
  unfold robj
  have hll := mlen_le (robjF rv s (s.size + 2) [] (ropen s r)).1
  have e0l : msize [] = 0 := rfl
  have ha1 := w1.ok.a; have ha2 := w1.a
  have hd := h.d0; have hd1 := h.d1
  refine ⟨⟨?_, ⟨ha1, w1.ok.b, ?_, ?_⟩, fun e => o1.b (q1.b (w1.b e))⟩, ?_, ?_, ?_, fun e => may_m (q5 (w1.b e))⟩
  · have := q1.a; dsimp only [rdec]; omega
  · dsimp only [rdec]; omega
  · have := w1.ok.d1; dsimp only [rdec]; omega
  · dsimp only [rdec]; omega
  · rw [jb_eq]; simp only [mkO, JV.n, JV.s, JV.l, JV.m, lb, true_and]
    exact ⟨Nat.zero_le _, Nat.zero_le _, Nat.zero_le _, by omega, q3⟩
  · simp only [mkO, jsize, lsize, rdec]; omega
theorem rnumv_ok {r : RS} (h : ROK s r) (hb : r.bad = 0) (ha : r.a < s.size) : VR s r (rnumv s r) := by
  have he := rEnd_le (s := s) (a := r.a) (by omega)
  have hm := rNum_may (s.extract r.a (rEnd s r.a).1)
  have h3 := h.d1; have h0 := h.d0
  unfold rnumv
  refine ⟨⟨he.1, ⟨by dsimp only; omega, fun _ => he.2, h0, by dsimp only; omega⟩, fun _ => hb⟩, rfl, ?_, ?_, fun _ => may_n hm⟩
  · exact jb_nil _ _ _ _ (by have := hm.size; omega) (Nat.zero_le _)
  · simp only [jsize_nil]; omega
theorem rone_ok {r : RS} (h : ROK s r) : VR s r (rone rv s r) := by
  have hz : ∀ {r' : RS} {v : JV}, RTo s r r' → r'.deep = r.deep → jsize v = 1 → jb v → jmay v → VR s r (v, r') := fun h1 h2 h3 h4 h5 => ⟨h1, h2, h4, by have := h1.a; dsimp only; omega, fun _ => h5⟩
  have h0 : jb vz := jb_nil _ _ _ _ (Nat.zero_le _) (Nat.zero_le _)
  unfold rone
  split
  · rename_i hp; have := pk_yes (s := s) (a := r.a) (bad := r.bad) (by omega); exact robj_ok hs hrv h this.1 this.2.1
  split
  · rename_i hp; have := pk_yes (s := s) (a := r.a) (bad := r.bad) (by omega); exact rarr_ok hs hrv h this.1 this.2.1
  split
  · obtain ⟨t1, t2, t3, t4⟩ := rtext_to h
    exact hz t1 t2 (jsize_nil _ _ _ _) (jb_nil _ _ _ _ (Nat.zero_le _) (by have := t1.ok.a; omega)) (may_s t3)
  split
  · exact hz (rwant_to h).1 (rwant_to h).2 (jsize_nil _ _ _ _) h0 vz_may
  split
  · exact hz (rwant_to h).1 (rwant_to h).2 (jsize_nil _ _ _ _) (jb_nil _ _ _ _ (Nat.zero_le _) (Nat.zero_le _)) (may_b true)
  split
  · exact hz (rwant_to h).1 (rwant_to h).2 (jsize_nil _ _ _ _) (jb_nil _ _ _ _ (Nat.zero_le _) (Nat.zero_le _)) (may_b false)
  split
  · rename_i hp; have := pk_yes (s := s) (a := r.a) (bad := r.bad) (by omega); exact rnumv_ok hs hrv h this.1 this.2.1
  · exact hz (rfail_to h (by decide)) rfl (jsize_nil _ _ _ _) h0 vz_may
end
theorem rval_ok {s : ByteArray} (hs : s.size ≤ 100000) : ∀ (n : Nat) (r : RS), ROK s r → VR s r (rval n s r) := by
  intro n
  induction n with
  | zero => intro r h; exact ⟨.refl h, rfl, jb_nil _ _ _ _ (Nat.zero_le _) (Nat.zero_le _), by simp only [rval, vz, jsize_nil]; omega, fun _ => vz_may⟩
  | succ n ih =>
    intro r h
    have b1 := rblank_to h
    have hv := rone_ok hs ih b1.ok
    have b2 := rblank_to hv.fwd.ok
    rw [rval]
    exact ⟨b1.trans (hv.fwd.trans b2), hv.deep, hv.jb, by have := hv.size; have := b1.a; have := b2.a; dsimp only; omega, fun e => hv.may (b2.b e)⟩
/-- What a text's reading comes to. -/
theorem rParse_ok (s : ByteArray) (h : (rParse s).2.1 = 0) : jmay (rParse s).1 ∧ jb (rParse s).1 ∧ jsize (rParse s).1 ≤ s.size + 2 ∧ s.size ≤ 20000 := by
  unfold rParse at h ⊢
  split at h
  · cases h
  · rename_i hs
    split at h
    · rename_i hb
      rw [if_neg hs, if_pos hb]
      have h0 : ROK s ⟨0, 0, 0, 0⟩ := ⟨Nat.zero_le _, fun _ => Nat.zero_le _, Int.le_refl _, Int.le_refl _⟩
      have hv : VR s ⟨0, 0, 0, 0⟩ (rpar s) := rval_ok (by omega) (s.size + 2) ⟨0, 0, 0, 0⟩ h0
      have hb2 : (rpar s).2.bad = 0 := by
        unfold rparE at hb
        split at hb
        · exact absurd hb (rfail_bad (by decide))
        · exact hb
      exact ⟨hv.may hb2, hv.jb, by have := hv.size; have := hv.fwd.ok.a; dsimp only at *; omega, by omega⟩
    · rename_i hb; exact absurd h hb
/-- What a law takes for a text's value. -/
noncomputable def rValue (s : ByteArray) : JV × Int := if 2000 < s.size then (vz, 0) else if (rParse s).2.1 = 0 then ((rParse s).1, 1) else (vz, 0)
theorem rValue_ok (s : ByteArray) : (rValue s).2 = 0 ∧ (rValue s).1 = vz ∨ (rValue s).2 = 1 ∧ jmay (rValue s).1 ∧ jb (rValue s).1 ∧ jsize (rValue s).1 ≤ 2002 := by
  unfold rValue
  split
  · exact .inl ⟨rfl, rfl⟩
  split
  · rename_i h1 h2
    have := rParse_ok s h2
    exact .inr ⟨rfl, this.1, this.2.1, by have := this.2.2.1; dsimp only; omega⟩
  · exact .inl ⟨rfl, rfl⟩
end Lg
namespace Lg
open Go
variable [GLay]
/-! ### Members as cells -/
def mrow (q : ByteArray × JV) : List AV := .str q.1 :: vcells q.2
theorem mcells_map (m : List (ByteArray × JV)) : mcells m = m.map mrow := mcells_eq m
theorem mrow_len (q : ByteArray × JV) : (mrow q).length = 9 := by simp [mrow, vlen]
theorem mrows_len (m : List (ByteArray × JV)) : ∀ r ∈ mcells m, r.length = 9 := fun r hr => by
  rw [mcells_map] at hr
  obtain ⟨v, _, rfl⟩ := List.mem_map.1 hr
  exact mrow_len v
theorem mflat_len (m : List (ByteArray × JV)) : (mcells m).flatten.length = m.length * 9 := by
  induction m with
  | nil => simp [mcells]
  | cons a m ih => obtain ⟨k, v⟩ := a; simp only [mcells, List.flatten_cons, List.length_append, ih, List.length_cons, vlen]; omega
theorem vones (v : JV) : ones (vcells v) = true := by rw [vcells_eq]; rfl
theorem mones (m : List (ByteArray × JV)) : ones (mcells m).flatten = true := by
  induction m with
  | nil => simp [mcells, ones]
  | cons a m ih =>
    obtain ⟨k, v⟩ := a
    simp only [mcells, List.flatten_cons, ones_append, ih, Bool.and_true, ones, vones]; rfl
theorem mflat_lt (n : Nat) (m : List (ByteArray × JV)) : AV.ltL n (mcells m).flatten := by
  induction m with
  | nil => simp [mcells, AV.ltL]
  | cons a m ih => obtain ⟨k, v⟩ := a; simp only [mcells, List.flatten_cons, ltL_append, AV.ltL, AV.lt, true_and]; exact ⟨vcells_lt n v, ih⟩
theorem mslice_lo (m : List (ByteArray × JV)) (j : Nat) (b : Int) (hb : b = m.length) : ((mcells m).drop j).take (b.toNat - j) = mcells (m.drop j) := by
  subst hb
  rw [Int.toNat_natCast, List.take_of_length_le (by simp [mcells_length]), mcells_map, mcells_map, List.map_drop]
theorem mslice_lo' (m : List (ByteArray × JV)) (j : Nat) : ((mcells m).drop j).take ((mcells m).length - j) = mcells (m.drop j) := by
  rw [List.take_of_length_le (by simp), mcells_map, mcells_map, List.map_drop]
theorem mslice_hi (m : List (ByteArray × JV)) (j : Nat) : ((mcells m).drop (0 : Int).toNat).take (j - (0 : Int).toNat) = mcells (m.take j) := by
  show ((mcells m).drop 0).take (j - 0) = _
  rw [List.drop_zero, Nat.sub_zero, mcells_map, mcells_map, List.map_take]
theorem mflat_ins (m : List (ByteArray × JV)) (key : ByteArray) (v : JV) : (mcells (rins m key v)).flatten = (mcells (m.take (rinsK m key))).flatten ++ (mrow (key, v) ++ (mcells (m.drop (rinsK m key))).flatten) := by
  unfold rins
  rw [mcells_map, mcells_map, mcells_map]; simp
theorem rinsK_le (m : List (ByteArray × JV)) (key : ByteArray) : rinsK m key ≤ m.length := by
  unfold rinsK
  exact (List.takeWhile_sublist _).length_le
theorem rins_len (m : List (ByteArray × JV)) (key : ByteArray) (v : JV) : (rins m key v).length = m.length + 1 := by
  have := rinsK_le m key
  unfold rins; simp; omega
theorem rinsK_yes {m : List (ByteArray × JV)} {key : ByteArray} {j : Nat} {q : ByteArray × JV} (hq : m[j]? = some q) (h : blt q.1 key = true) : rinsK (m.drop j) key = 1 + rinsK (m.drop (j + 1)) key := by
  obtain ⟨hj, rfl⟩ := List.getElem?_eq_some_iff.1 hq
  rw [List.drop_eq_getElem_cons hj]
  unfold rinsK
  simp only [List.takeWhile_cons, h, if_true, List.length_cons]; omega
theorem rinsK_no {m : List (ByteArray × JV)} {key : ByteArray} {j : Nat} {q : ByteArray × JV} (hq : m[j]? = some q) (h : blt q.1 key = false) : rinsK (m.drop j) key = 0 := by
  obtain ⟨hj, rfl⟩ := List.getElem?_eq_some_iff.1 hq
  rw [List.drop_eq_getElem_cons hj]
  unfold rinsK
  simp only [List.takeWhile_cons, h, Bool.false_eq_true, if_false, List.length_nil]
theorem rinsK_end {m : List (ByteArray × JV)} {key : ByteArray} {j : Nat} (h : m.length ≤ j) : rinsK (m.drop j) key = 0 := by
  rw [List.drop_eq_nil_of_le h]; rfl
end Lg
namespace Lg
open Go
/-! ### The reference's reader, to be run by the kernel -/
def rnumvC (s : ByteArray) (r : RS) : JV × RS :=
  (.mk 2 false (pNum (s.extract r.a (rEnd s r.a).1).data.toList).1 e0 [] [],
   ⟨(rEnd s r.a).1, r.deep, (if (pNum (s.extract r.a (rEnd s r.a).1).data.toList).2 = 0 then (if (rEnd s r.a).2 = true then r else rfail r (rEnd s r.a).1 1) else rfail (if (rEnd s r.a).2 = true then r else rfail r (rEnd s r.a).1 1) r.a 5).bad,
    (if (pNum (s.extract r.a (rEnd s r.a).1).data.toList).2 = 0 then (if (rEnd s r.a).2 = true then r else rfail r (rEnd s r.a).1 1) else rfail (if (rEnd s r.a).2 = true then r else rfail r (rEnd s r.a).1 1) r.a 5).spot⟩)
theorem rnumv_C {s : ByteArray} (hs : s.size ≤ 1000) (r : RS) : rnumv s r = rnumvC s r := by
  unfold rnumv rnumvC
  rw [rNum_pNum _ (by rw [ByteArray.size_extract]; omega)]
/-- What a byte begins. -/
def roneC (rv : RS → JV × RS) (s : ByteArray) (r : RS) : JV × RS :=
  if pkv s r.a r.bad = 123 then robj rv s r else
  if pkv s r.a r.bad = 91 then rarr rv s r else
  if pkv s r.a r.bad = 34 then (.mk 3 false {} (rtext s r).1 [] [], (rtext s r).2) else
  if pkv s r.a r.bad = 110 then (vz, rwant s lNull r) else
  if pkv s r.a r.bad = 116 then (.mk 1 true {} e0 [] [], rwant s lTrue r) else
  if pkv s r.a r.bad = 102 then (.mk 1 false {} e0 [] [], rwant s lFalse r) else
  if pkv s r.a r.bad = 45 ∨ (48 ≤ pkv s r.a r.bad ∧ pkv s r.a r.bad ≤ 57) then rnumvC s r else (vz, rfail r r.a 1)
def rvalC : Nat → ByteArray → RS → JV × RS
  | 0, s, r => (vz, r)
  | n + 1, s, r => ((roneC (rvalC n s) s (rblank s r)).1, rblank s (roneC (rvalC n s) s (rblank s r)).2)
theorem rval_C {s : ByteArray} (hs : s.size ≤ 1000) : ∀ n, rval n s = rvalC n s
  | 0 => rfl
  | n + 1 => by
    funext r
    have ih := rval_C hs n
    unfold rval rvalC
    rw [ih]
    have e : ∀ r, rone (rvalC n s) s r = roneC (rvalC n s) s r := fun r => by unfold rone roneC; rw [rnumv_C hs]
    rw [e]
def rparC (s : ByteArray) : JV × RS := rvalC (s.size + 2) s ⟨0, 0, 0, 0⟩
def rparEC (s : ByteArray) : RS := if (rparC s).2.bad = 0 ∧ (rparC s).2.a < s.size then rfail (rparC s).2 (rparC s).2.a 1 else (rparC s).2
def rParseC (s : ByteArray) : JV × Int × Int :=
  if 20000 < s.size then (vz, 5, 20000) else if (rparEC s).bad = 0 then ((rparC s).1, 0, 0) else (vz, (rparEC s).bad, (rparEC s).spot)
theorem rParse_C {s : ByteArray} (hs : s.size ≤ 1000) : rParse s = rParseC s := by
  have e : rpar s = rparC s := by unfold rpar rparC; rw [rval_C hs]
  unfold rParse rParseC rparE rparEC; rw [e]
end Lg
namespace Lg
open Go
theorem ljw_ne {l : List JV} {i : Nat} (c : UInt8) (h : i < l.length) (h0 : i ≠ 0) : ljw c (l.take i) ≠ [] := by
  cases l with
  | nil => simp at h
  | cons a r => obtain ⟨i, rfl⟩ : ∃ j, i = j + 1 := ⟨i - 1, by omega⟩; simp [ljw]
theorem mjw_ne {l : List (ByteArray × JV)} {i : Nat} (c : UInt8) (h : i < l.length) (h0 : i ≠ 0) : mjw c (l.take i) ≠ [] := by
  cases l with
  | nil => simp at h
  | cons a r => obtain ⟨i, rfl⟩ : ∃ j, i = j + 1 := ⟨i - 1, by omega⟩; obtain ⟨k, y⟩ := a; simp [mjw]
theorem tail_app {a b : BL} (h : a ≠ []) : (a ++ b).tail = a.tail ++ b := by cases a with
  | nil => exact absurd rfl h
  | cons => rfl
theorem ljw_tail {l : List JV} {i : Nat} {x : JV} (h : l[i]? = some x) : (ljw 44 (l.take (i + 1))).tail = (if i = 0 then [] else (ljw 44 (l.take i)).tail ++ [44]) ++ jtx x := by
  have hi := (List.getElem?_eq_some_iff.1 h).1
  rw [ljw_take 44 h]
  split
  · rename_i h0; subst h0; simp [ljw]
  · rename_i h0; rw [tail_app (ljw_ne 44 hi h0)]; simp
theorem mjw_tail {l : List (ByteArray × JV)} {i : Nat} {x : ByteArray × JV} (h : l[i]? = some x) : (mjw 44 (l.take (i + 1))).tail = (if i = 0 then [] else (mjw 44 (l.take i)).tail ++ [44]) ++ (quoteL x.1.data.toList ++ 58 :: jtx x.2) := by
  have hi := (List.getElem?_eq_some_iff.1 h).1
  rw [mjw_take 44 h]
  split
  · rename_i h0; subst h0; simp [mjw]
  · rename_i h0; rw [tail_app (mjw_ne 44 hi h0)]; simp
theorem jtx_4 {v : JV} (h : v.kind = 4) : jtx v = 91 :: ((ljw 44 v.l).tail ++ [93]) := by
  rw [jtx_eq, if_neg (by omega), if_neg (by omega), if_neg (by omega), if_pos h, ljw_head]
  split
  · rename_i h0; rw [List.length_eq_zero_iff.1 h0]; rfl
  · rfl
theorem jtx_5 {v : JV} (h : v.kind = 5) : jtx v = 123 :: ((mjw 44 v.m).tail ++ [125]) := by
  rw [jtx_eq, if_neg (by omega), if_neg (by omega), if_neg (by omega), if_neg (by omega), if_pos h, mjw_head]
  split
  · rename_i h0; rw [List.length_eq_zero_iff.1 h0]; rfl
  · rfl
def ex5 : ByteArray := ⟨#[123, 34, 98, 34, 58, 49, 46, 48, 44, 32, 34, 97, 34, 58, 91, 93, 125]⟩
theorem ex5_0 : (rParse ex5).2.1 = 0 := by rw [rParse_C (by decide)]; decide +kernel
theorem ex5_t : jtx (rParse ex5).1 = [123, 34, 97, 34, 58, 91, 93, 44, 34, 98, 34, 58, 49, 125] := by rw [rParse_C (by decide)]; decide +kernel
theorem ex5_ok [GLay] : jb (rParse ex5).1 ∧ jkb (rParse ex5).1 ∧ jsize (rParse ex5).1 ≤ 100 := by
  obtain ⟨h1, h2, h3, h4⟩ := rParse_ok ex5 ex5_0
  have h5 : ex5.size = 17 := rfl
  exact ⟨h2, may_kb _ _ (show jsize (rParse ex5).1 ≤ ((1000 : Nat) : Int) by omega) h1, by omega⟩
theorem vz_jb : jb vz ∧ jkb vz := by
  constructor
  · exact ⟨Nat.zero_le _, Nat.zero_le _, Nat.zero_le _, Nat.zero_le _, trivial, trivial⟩
  · exact ⟨by decide, by decide, ⟨by decide, by decide⟩, trivial, trivial⟩
theorem vz_tx : jtx vz = nullL := by rfl
end Lg
namespace Lg
open Go Go.RowKit
variable [GLay]
/-! ### Maps of the call's own -/
theorem Good.newMap {s : CS} (g : Good s) : ∃ s', s'.σ = s.σ ++ [.map []] ∧ s'.w = s.w.alloc (.map #[] 0) ∧ Good s' ∧ Ext s s' ∧ V s' (.mapv s.σ.length) (.map (some s.w.heap.size)) := by
  let s' : CS := { σ := s.σ ++ [.map []], μ := fun p => if p = s.σ.length then ⟨s.w.heap.size, 0, 0⟩ else s.μ p, ok := s.ok, w := s.w.alloc (.map #[] 0) }
  have hold : ∀ {p : Nat}, p < s.σ.length → s'.σ[p]? = s.σ[p]? ∧ s'.μ p = s.μ p := fun {p} h =>
    ⟨by show (s.σ ++ [_])[p]? = _; rw [List.getElem?_append_left h], by show (if p = _ then _ else _) = _; rw [if_neg (by omega)]⟩
  have hnew : s'.σ[s.σ.length]? = some (.map []) ∧ s'.μ s.σ.length = ⟨s.w.heap.size, 0, 0⟩ := ⟨by show (s.σ ++ [_])[_]? = _; simp, by show (if _ = _ then _ else _) = _; rw [if_pos rfl]⟩
  have hl : s'.σ.length = s.σ.length + 1 := by show (s.σ ++ [_]).length = _; simp
  have hcase : ∀ {p : Nat} {o : AO}, s'.σ[p]? = some o → (p < s.σ.length ∧ s.σ[p]? = some o ∧ s'.μ p = s.μ p) ∨ (p = s.σ.length ∧ o = .map []) := fun {p o} h => by
    have hp' := (List.getElem?_eq_some_iff.1 h).1
    rcases Nat.lt_or_ge p s.σ.length with hp | hp
    · exact .inl ⟨hp, (hold hp).1 ▸ h, (hold hp).2⟩
    · have e : p = s.σ.length := by omega
      subst e; rw [hnew.1] at h; exact .inr ⟨rfl, (Option.some.inj h).symm⟩
  have hlive : ∀ {p : Nat}, s'.live p → (p < s.σ.length ∧ s.live p ∧ s'.μ p = s.μ p) ∨ p = s.σ.length := fun {p} h => by
    have hp := CS.live_lt h
    rcases Nat.lt_or_ge p s.σ.length with h1 | h1
    · refine .inl ⟨h1, ?_, (hold h1).2⟩
      unfold CS.live at h ⊢
      rw [(hold h1).1, (hold h1).2] at h
      exact h
    · exact .inr (by omega)
  have hsz : s'.w.heap.size = s.w.heap.size + 1 := alloc_size _ _
  have hheap : ∀ {b : Nat}, b < s.w.heap.size → s'.w.heap[b]? = s.w.heap[b]? := fun {b} hb => by
    show (s.w.alloc _).heap[b]? = _; rw [alloc_heap, if_neg (by omega)]
  have hlt : ∀ {p : Nat} {o : AO}, s.σ[p]? = some o → p < s.σ.length := fun h => (List.getElem?_eq_some_iff.1 h).1
  have x : Ext s s' := {
    objs := fun p o h => ⟨o, by rw [(hold (hlt h)).1]; exact h, OLe.refl o, fun _ => (hold (hlt h)).2⟩
    ok := fun _ h => h
    okn := fun _ h => .inl h
    mun := fun p h => by
      rcases hlive h with ⟨h1, h2, h3⟩ | rfl
      · exact .inl ⟨h1, h2, by rw [h3]⟩
      · exact .inr (by rw [hnew.2]; exact Nat.le_refl _)
    frame := fun b hb _ => hheap hb
    size := by omega
    shp := fun p cs cs' z h1 _ h3 => by rw [(hold (hlt h1)).2]; exact (shape_eq (hheap (shape_some h3))).trans h3
    tape := rfl
    os := rfl
    output := rfl }
  refine ⟨s', rfl, rfl, ⟨fun b hb => Nat.lt_of_lt_of_le (g.okb b hb) x.size, fun p o ho => ?_, fun p q hpq hp hq => ?_, fun b o ho => ?_⟩, x, ?_⟩
  · rcases hcase ho with ⟨h1, h2, h3⟩ | ⟨rfl, rfl⟩
    · exact ORep.keep g x h2 h3 (fun hl => (g.live_lt hl).2) (fun hl => hheap (g.live_lt hl).1)
    · refine ⟨?_, [], 0, ?_, PW.nil⟩
      · rw [hnew.2]; exact fun hk => absurd (g.okb _ hk) (by simp)
      · rw [hnew.2]; show (s.w.alloc _).heap[_]? = _; rw [alloc_heap, if_pos rfl]
  · rcases hlive hp with ⟨p1, p2, p3⟩ | rfl <;> rcases hlive hq with ⟨q1, q2, q3⟩ | rfl
    · rw [p3, q3]; exact g.inj p q hpq p2 q2
    · rw [p3, hnew.2]; have := (g.live_lt p2).1; show _ ≠ s.w.heap.size; omega
    · rw [q3, hnew.2]; have := (g.live_lt q2).1; show s.w.heap.size ≠ _; omega
    · exact absurd rfl hpq
  · obtain ⟨h1, h2⟩ := g.glob b o ho
    exact ⟨h1, (hheap (g.okb b h1)).trans h2⟩
  · have := V.mapv (s := s') s.σ.length [] hnew.1
    rw [hnew.2] at this
    exact this
theorem Good.setMap {s : CS} (g : Good s) {p : Nat} {l l' : List (AV × AV)} (ho : s.σ[p]? = some (.map l)) {es : List MapEntry} {c : Nat} (hv : PW s (mflat l') (mflat (es.map fun e => (e.key, e.val)))) :
    ∃ s', s'.σ = s.σ.set p (.map l') ∧ s'.w = { s.w with heap := s.w.heap.setIfInBounds (s.μ p).b (.map es.toArray c) } ∧ Good s' ∧ Ext s s' := by
  have hp : s.live p := by unfold CS.live; rw [ho]; trivial
  have hblt := (g.live_lt hp).1
  have hlt : p < s.σ.length := (List.getElem?_eq_some_iff.1 ho).1
  let s' : CS := { s with σ := s.σ.set p (.map l'), w := { s.w with heap := s.w.heap.setIfInBounds (s.μ p).b (.map es.toArray c) } }
  have hso : ∀ b, b ≠ (s.μ p).b → s'.w.heap[b]? = s.w.heap[b]? := fun b hb => by
    show (s.w.heap.setIfInBounds _ _)[b]? = _; rw [Array.getElem?_setIfInBounds, if_neg (fun e => hb e.symm)]
  have hst : s'.w.heap[(s.μ p).b]? = some (.map es.toArray c) := by
    show (s.w.heap.setIfInBounds _ _)[_]? = _; rw [Array.getElem?_setIfInBounds, if_pos rfl, if_pos hblt]
  have hother : ∀ {q : Nat}, q ≠ p → s'.σ[q]? = s.σ[q]? := fun {q} hq => by
    show (s.σ.set p _)[q]? = _; rw [List.getElem?_set, if_neg (fun e => hq e.symm)]
  have hthis : s'.σ[p]? = some (.map l') := by show (s.σ.set p _)[p]? = _; simp [hlt]
  have hlive' : ∀ {q : Nat}, s'.live q → s.live q := fun {q} hq => by
    by_cases e : q = p
    · subst e; exact hp
    · unfold CS.live at hq ⊢; rw [hother e] at hq; exact hq
  have x : Ext s s' := {
    objs := fun q r hr => by
      by_cases e : q = p
      · subst e
        rw [ho] at hr; cases hr
        exact ⟨_, hthis, .map _ _, fun _ => rfl⟩
      · exact ⟨r, by rw [hother e]; exact hr, OLe.refl r, fun _ => rfl⟩
    ok := fun _ h => h
    okn := fun _ h => .inl h
    mun := fun q hq => .inl ⟨CS.live_lt (hlive' hq), hlive' hq, rfl⟩
    frame := fun b _ hne => hso b (fun e => hne p hp e.symm)
    size := by show _ ≤ (s.w.heap.setIfInBounds _ _).size; simp
    shp := fun q cs cs' z h1 h2 h3 => by
      by_cases e : q = p
      · subst e; rw [ho] at h1; cases h1
      · have hq : s.live q := by unfold CS.live; rw [h1]; trivial
        exact (shape_eq (hso _ (fun e2 => g.inj q p e hq hp e2))).trans h3
    tape := rfl
    os := rfl
    output := rfl }
  refine ⟨s', rfl, rfl, ⟨fun b hb => Nat.lt_of_lt_of_le (g.okb b hb) x.size, fun q r hr => ?_, fun q q' hne h1 h2 => g.inj q q' hne (hlive' h1) (hlive' h2), fun b r hr => ?_⟩, x⟩
  · by_cases e : q = p
    · subst e
      rw [hthis] at hr; cases hr
      exact ⟨(g.live_lt hp).2, es, c, hst, hv.mono g x⟩
    · have hr' : s.σ[q]? = some r := by rw [← hother e]; exact hr
      exact ORep.keep g x hr' rfl (fun hq => (g.live_lt hq).2) (fun hq => hso _ (g.inj q p e hq hp))
  · obtain ⟨h1, h2⟩ := g.glob b r hr
    exact ⟨h1, (hso b (fun e => (g.live_lt hp).2 (e ▸ h1))).trans h2⟩
variable {P : Program} {σ l : List AO} {e : Env} {o : Oper} {p : Nat} {x : AO}
theorem op_makeMap {T : TypeId} (ho : o.op = .makeMap T none) : AOp P σ e o (.mapv σ.length) (σ ++ [.map []]) := by
  intro s a hs g hv K Q hk _
  subst hs
  obtain ⟨s', e1, e2, g', x', hv'⟩ := g.newMap
  refine wp_value (w' := s'.w) ?_ (hk _ _ s' ⟨rfl, e1⟩ g' x' hv')
  rw [e2]
  simp [execOp, ho, Instr.makeMap, Sem.run]
theorem V.inv_mapv {s : CS} {c : Value} (h : V s (.mapv p) c) : c = .map (some (s.μ p).b) := by cases h; rfl
/-! ### Keys that are strings -/
theorem ba_eqq (a b : ByteArray) : (a == b) = decide (a = b) := by
  obtain ⟨a⟩ := a
  obtain ⟨b⟩ := b
  show (a == b) = _
  by_cases h : a = b
  · subst h; simp
  · have : ¬ (ByteArray.mk a = ByteArray.mk b) := fun e => h (by injection e)
    simp [h, this]
def smap (m : List (ByteArray × AV)) : List (AV × AV) := m.map fun q => (.str q.1, q.2)
def mget : List (ByteArray × AV) → ByteArray → Option (Nat × AV)
  | [], _ => none
  | (x, v) :: r, k => if k = x then some (0, v) else (mget r k).map fun z => (z.1 + 1, z.2)
theorem findNow_s {s : CS} (k : ByteArray) : ∀ (m : List (ByteArray × AV)) (es : List MapEntry) (i : Nat), PW s (mflat (smap m)) (mflat (es.map fun e => (e.key, e.val))) →
    ∃ r, Instr.findNow .string (.string k) es i = some r ∧ (match mget m k with
      | none => r = none
      | some (j, v) => ∃ c, r = some (i + j, c) ∧ V s v c)
  | [], es, i, h => by
    have := h.inv_nil
    cases es with
    | nil => exact ⟨none, rfl, rfl⟩
    | cons a r => simp [mflat] at this
  | (y, v) :: m, es, i, h => by
    cases es with
    | nil => have := h.1; simp [smap, mflat] at this
    | cons a r =>
      have h' : PW s (.str y :: v :: mflat (smap m)) (a.key :: a.val :: mflat (r.map fun e => (e.key, e.val))) := h
      have k1 := h'.2 0 _ _ rfl rfl
      have k2 := h'.2 1 _ _ rfl rfl
      have k3 : PW s (mflat (smap m)) (mflat (r.map fun e => (e.key, e.val))) := by
        obtain ⟨q, qs, e1, _, h2⟩ := h'.inv_cons
        obtain ⟨q2, qs2, e2, _, h3⟩ := h2.inv_cons
        cases e1; cases e2; exact h3
      simp only [Instr.findNow, k1.inv_str, Instr.sameNow]
      simp only [mget]
      by_cases hk : k = y
      · subst hk
        rw [if_pos rfl]
        refine ⟨some (i, a.val), ?_, a.val, rfl, k2⟩
        rw [show (k == k) = true by rw [ba_eqq]; simp]
      · rw [if_neg hk]
        obtain ⟨r', h1, h2⟩ := findNow_s k m r (i + 1) k3
        refine ⟨r', ?_, ?_⟩
        · rw [show (k == y) = false by rw [ba_eqq]; simpa using hk]; exact h1
        · revert h2
          cases mget m k with
          | none => exact id
          | some z => obtain ⟨j, v'⟩ := z; rintro ⟨c, e1, e2⟩; exact ⟨c, by rw [e1]; congr 1; congr 1; omega, e2⟩
instance : LawfulBEq ByteArray where
  eq_of_beq {a b} h := by rw [ba_eqq] at h; exact of_decide_eq_true h
  rfl {a} := by rw [ba_eqq]; exact decide_eq_true rfl
theorem mget_map (f : AV) (ks : List ByteArray) (k : ByteArray) : (mget (ks.map fun x => (x, f)) k).map (·.2) = if k ∈ ks then some f else none := by
  induction ks with
  | nil => simp [mget]
  | cons a r ih =>
    simp only [List.map_cons, mget]
    by_cases h : k = a
    · subst h; simp
    · rw [if_neg h]
      simp only [Option.map_map, List.mem_cons, h, false_or]
      rw [← ih]
      cases mget (r.map fun x => (x, f)) k <;> rfl
section
variable {T K E : TypeId} {a b c : Operand} {m : List (ByteArray × AV)} {k : ByteArray} {z : Value}
theorem op_lookupS (ho : o.op = .lookup T a b false) (hu : P.underlying T = some (.map K E)) (hK : P.underlying K = some .string) (hz : ∀ w, (zeroValue E).run P w = Result.ok z w) (hx : opO e a = some (.mapv p)) (hy : opO e b = some (.str k))
    (hσ : σ[p]? = some (.map (smap m))) : AOp P σ e o (((mget m k).map (·.2)).getD (ofConst z)) σ :=
  .of_run fun s ac hs g hv => by
    subst hs
    have h1 := opO_eq hx ▸ hv a (by simp [ho, Op.operands])
    have h2 := (opO_eq hy ▸ hv b (by simp [ho, Op.operands])).inv_str
    have h1' := h1.inv_mapv
    obtain ⟨hnok, es, ck, hb, hpw⟩ := g.obj p _ hσ
    obtain ⟨r, hr, hm⟩ := findNow_s k m es 0 hpw
    have hc : ∀ em, (Instr.checkKey em 10000 K (.string k)).run P s.w = .ok () s.w := fun em => MapKept.run_checkKey (k := .string k) hK (by simp [MapKept.IsKey]) em 9999
    have hf : (Instr.findKey K (.string k) es).run P s.w = .ok r s.w := MapKept.run_findKey hK hr
    cases hg : mget m k with
    | none =>
      rw [hg] at hm
      subst hm
      refine ⟨z, ?_, by simpa using V_ofConst s z⟩
      simp [execOp, ho, h1', h2, Instr.lookup, run_underlying hu, MapKept.run_getObj_map hb, hc, hf, hz, Result.andThen]
    | some y =>
      obtain ⟨j, v⟩ := y
      rw [hg] at hm
      obtain ⟨cv, rfl, hcv⟩ := hm
      refine ⟨cv, ?_, by simpa using hcv⟩
      simp [execOp, ho, h1', h2, Instr.lookup, run_underlying hu, MapKept.run_getObj_map hb, hc, hf, Result.andThen]
/-- A key that isn't there yet. -/
theorem op_mapUpdS {v : AV} (ho : o.op = .mapUpdate T a b c) (hu : P.underlying T = some (.map K E)) (hK : P.underlying K = some .string) (hx : opO e a = some (.mapv p)) (hy : opO e b = some (.str k)) (hc : opO e c = some v)
    (hσ : σ[p]? = some (.map (smap m))) (hn : mget m k = none) : AOp P σ e o .any (σ.set p (.map (smap (m ++ [(k, v)])))) := by
  intro s ac hs g hv Kk Q hk _
  subst hs
  have h1 := opO_eq hx ▸ hv a (by simp [ho, Op.operands])
  have h2 := (opO_eq hy ▸ hv b (by simp [ho, Op.operands])).inv_str
  have h3 := opO_eq hc ▸ hv c (by simp [ho, Op.operands])
  have h1' := h1.inv_mapv
  obtain ⟨hnok, es, ck, hb, hpw⟩ := g.obj p _ hσ
  obtain ⟨r, hr, hm⟩ := findNow_s k m es 0 hpw
  rw [hn] at hm
  subst hm
  have hcc : (Instr.checkKey false 10000 K (.string k)).run P s.w = .ok () s.w := MapKept.run_checkKey (k := .string k) hK (by simp [MapKept.IsKey]) false 9999
  have hf : (Instr.findKey K (.string k) es).run P s.w = .ok none s.w := MapKept.run_findKey hK hr
  have mf : ∀ {α : Type} (x y : List (α × α)), mflat (x ++ y) = mflat x ++ mflat y := fun {α} x y => by
    induction x with
    | nil => rfl
    | cons q r ih => simp [mflat, ih]
  obtain ⟨s', e1, e2, g', x'⟩ := g.setMap hσ (l' := smap (m ++ [(k, v)])) (es := es ++ [{ key := .string k, val := ac.eval c, born := ck }]) (c := ck + 1) (by
    simp only [smap, List.map_append, mf]
    exact hpw.append (PW.cons (.str k) (PW.cons h3 PW.nil)))
  refine wp_skipv (w' := s'.w) ?_ (hk .any undef s' ⟨rfl, e1⟩ g' x' (.any _))
  rw [e2]
  simp [execOp, ho, h1', h2, Instr.mapUpdate, run_underlying hu, MapKept.run_getObj_map hb, hcc, hf, MapKept.run_setObj_map _ hb, Result.andThen]
end
end Lg
namespace Lg
open Go
theorem ltLL_str (m : Nat) (l : List ByteArray) : AV.ltLL m (l.map fun x => [AV.str x]) := by
  induction l with
  | nil => simp [AV.ltLL]
  | cons x l ih => simp [AV.ltLL, AV.ltL, AV.lt]; simpa using ih
/-! ### Keywords -/
def kwL : List (ByteArray × Nat) := [
 (⟨#[116, 121, 112, 101]⟩, 1),
 (⟨#[101, 110, 117, 109]⟩, 2),
 (⟨#[99, 111, 110, 115, 116]⟩, 3),
 (⟨#[109, 105, 110, 105, 109, 117, 109]⟩, 4),
 (⟨#[109, 97, 120, 105, 109, 117, 109]⟩, 4),
 (⟨#[109, 105, 110, 76, 101, 110, 103, 116, 104]⟩, 5),
 (⟨#[109, 97, 120, 76, 101, 110, 103, 116, 104]⟩, 5),
 (⟨#[109, 105, 110, 73, 116, 101, 109, 115]⟩, 5),
 (⟨#[109, 97, 120, 73, 116, 101, 109, 115]⟩, 5),
 (⟨#[117, 110, 105, 113, 117, 101, 73, 116, 101, 109, 115]⟩, 6),
 (⟨#[114, 101, 113, 117, 105, 114, 101, 100]⟩, 7),
 (⟨#[105, 116, 101, 109, 115]⟩, 8),
 (⟨#[97, 100, 100, 105, 116, 105, 111, 110, 97, 108, 80, 114, 111, 112, 101, 114, 116, 105, 101, 115]⟩, 8),
 (⟨#[110, 111, 116]⟩, 8),
 (⟨#[112, 114, 111, 112, 101, 114, 116, 105, 101, 115]⟩, 9),
 (⟨#[36, 100, 101, 102, 115]⟩, 9),
 (⟨#[97, 108, 108, 79, 102]⟩, 10),
 (⟨#[97, 110, 121, 79, 102]⟩, 10),
 (⟨#[111, 110, 101, 79, 102]⟩, 10),
 (⟨#[36, 114, 101, 102]⟩, 11)]
/-- Which kind of keyword a name is; 0: none. -/
def rk (n : ByteArray) : Nat := ((kwL.find? fun q => decide (n = q.1)).map (·.2)).getD 0
def schB (v : JV) : Bool := decide (v.kind = 1) || decide (v.kind = 5)
def tyL : List ByteArray := [⟨#[110, 117, 108, 108]⟩, ⟨#[98, 111, 111, 108, 101, 97, 110]⟩, ⟨#[110, 117, 109, 98, 101, 114]⟩, ⟨#[105, 110, 116, 101, 103, 101, 114]⟩, ⟨#[115, 116, 114, 105, 110, 103]⟩, ⟨#[97, 114, 114, 97, 121]⟩, ⟨#[111, 98, 106, 101, 99, 116]⟩]
def tyB (v : JV) : Bool := decide (v.kind = 3) && tyL.any (fun t => decide (v.s = t))
/-- All are texts, no two the same. -/
def txI (l : List JV) (i : Nat) : Prop := ∀ (a : Nat) x, a < i → l[a]? = some x → x.kind = 3 ∧ ∀ (b : Nat) y, b < a → l[b]? = some y → ¬ x.s = y.s
noncomputable def txB (v : JV) : Bool := pb (txI v.l v.l.length) && decide (v.kind = 4)
noncomputable def kOK (c : Nat) (v : JV) : Bool := match c with
  | 1 => tyB v || (txB v && decide (0 < v.l.length) && v.l.all tyB)
  | 2 => decide (v.kind = 4) && decide (0 < v.l.length)
  | 3 => true
  | 4 => decide (v.kind = 2)
  | 5 => decide (v.kind = 2) && rWhole v.n && !v.n.neg
  | 6 => decide (v.kind = 1)
  | 7 => txB v
  | 8 => schB v
  | 9 => decide (v.kind = 5) && v.m.all (fun q => schB q.2)
  | 10 => decide (v.kind = 4) && decide (0 < v.l.length) && v.l.all schB
  | 11 => decide (v.kind = 3)
  | _ => false
/-- What a name tells of a value: 0: it may have it. -/
noncomputable def rShape (n : ByteArray) (v : JV) : Int := if rk n = 0 then 10 else if kOK (rk n) v = true then 0 else 11
/-- The schemas in it. -/
def kidsM (n : ByteArray) (v : JV) : List (ByteArray × JV) :=
  if rk n = 8 then [(e0, v)] else if rk n = 9 then v.m else if rk n = 10 then v.l.zipIdx.map (fun q => (itoaB q.2, q.1)) else []
end Lg
set_option maxRecDepth 20000
set_option maxHeartbeats 4000000
namespace Lg
open Go Go.Proofs Go.RowKit
variable [GLay] 
theorem ixfV_c (k : Nat) (fn : Go.Func) (hfn : Tryd.prog.funcs[k]? = some fn) (hname : (fn.name == "runtime.NumGoroutine") = false) (hb : fn.body.isNone = false) (cp : List AV) (hcp : ∀ n, AV.ltL n cp) (l : List JV) (p : JV → Bool) (σ : List AO) (hl : l.length ≤ 1000000000) (hf : ∀ (i : Nat) x, l[i]? = some x → ACalls Tryd.prog k (.agg (vcells x) :: cp) σ (Ret (.bool (p x)) σ)) : ACalls Tryd.prog 111 [.sl false 8 (lcells l), .func (.func k) [] cp] σ (fun o σ' => σ' = σ ∧ ∃ n : Int, o = .ret (.int .i64 n) ∧ ((l.any p = true ∧ 0 ≤ n) ∨ (l.any p = false ∧ n = -1))) := by
 refine ACalls_body Tryd.func111 rfl Tryd.ntmps111 (res1 Tryd.results111) (Nat.le_of_ble_eq_true rfl) (fun hcl hal => ?_)
 refine zw1 ?_
 refine AWp_seq ?_
 refine zw3 ?_
 refine AWp_block ?_
 -- loop 0 LIVE 0:param 1:param 4:assign 7:call 8:move
 refine AWp_loop (ι := Nat) (fun i => i ≤ l.length ∧ ∀ (j : Nat) x, j < i → l[j]? = some x → p x = false) (fun i => ⟨[], [(0, .sl false 8 (lcells l)), (1, .func (.func k) [] cp), (7, .int .i64 (l.length : Int)), (8, .int .i64 (i : Int))]⟩) (fun i => σ) (fun i => l.length - i) (0) (⟨Nat.zero_le _, fun j x hj => absurd hj (by omega)⟩) ?_ rfl (fun i hi => ?_)
 ·refine ⟨rfl, rfl, rfl, ?_, rfl, trivial⟩
  rw [← lcells_length]; rfl
 obtain ⟨hi1, hi2⟩ := hi
 refine zw1 ?_
 refine AWp_seq ?_
 refine AWp_cond rfl (fun h1 => ?_) (fun h1 => ?_)
 ·(try rw [h1]); replace h1 := zcl h1
  have hlt : i < l.length := by omega
  obtain ⟨x, hx⟩ : ∃ x, l[i]? = some x := ⟨_, List.getElem?_eq_getElem hlt⟩
  refine AWp_skip ?_
  refine AWp_seq ?_
  refine AWp_block ?_
  refine zw2 ?_
  refine zu4 ?_
  rw [vcells_eq x]
  refine zg1 ?_
  refine zt rfl (op_callF rfl rfl rfl hfn hname hb (vcells_eq x ▸ hf i x hx)) ?_
  refine zon ?_
  refine AWp_cond rfl (fun h2 => ?_) (fun h2 => ?_)
  ·(try rw [h2]); replace h2 := zcl h2
   refine zw2 ?_
   refine zrt ?_
   refine ResQ_10 rfl hcl ?_ ?_
   ·trivial
   ·exact ⟨rfl, _, rfl, .inl ⟨List.any_eq_true.2 ⟨x, List.mem_of_getElem? hx, h2⟩, by omega⟩⟩
  ·(try rw [h2]); replace h2 := zcl h2
   refine AWp_skip ?_
   refine AWp_regL ?_
   refine zv2 ?_
   refine ⟨i + 1, σ.length, ⟨by omega, fun j y hj hy => ?_⟩, by omega, Nat.le_refl _, ⟨rfl, rfl, rfl, rfl, rfl, trivial⟩, hcl, ?_, List.take_length⟩
   ·by_cases e : j = i
    ·subst e; rw [hx] at hy; cases hy; exact h2
    ·exact hi2 j y (by omega) hy
   ·simp [ltE, AV.lt, AV.ltL, hcp]
 ·(try rw [h1]); replace h1 := zcl h1
  refine AWp_exit ?_
  refine zw1 ?_
  refine zrt ?_
  refine ResQ_10 rfl hcl ?_ ⟨rfl, _, rfl, .inr ⟨?_, rfl⟩⟩
  trivial
  rw [List.any_eq_false]
  intro x hx
  obtain ⟨j, hj⟩ := List.getElem?_of_mem hx
  have := hi2 j x (by have := (List.getElem?_eq_some_iff.1 hj).1; omega) hj
  simp [this]

theorem ctfV_c (k : Nat) (fn : Go.Func) (hfn : Tryd.prog.funcs[k]? = some fn) (hname : (fn.name == "runtime.NumGoroutine") = false) (hb : fn.body.isNone = false) (cp : List AV) (hcp : ∀ n, AV.ltL n cp) (l : List JV) (p : JV → Bool) (σ : List AO) (hl : l.length ≤ 1000000000) (hf : ∀ (i : Nat) x, l[i]? = some x → ACalls Tryd.prog k (.agg (vcells x) :: cp) σ (Ret (.bool (p x)) σ)) : ACalls Tryd.prog 91 [.sl false 8 (lcells l), .func (.func k) [] cp] σ (Ret (.bool (l.any p)) σ) := by
 refine ACalls_body Tryd.func91 rfl Tryd.ntmps91 (res1 Tryd.results91) (Nat.le_of_ble_eq_true rfl) (fun hcl hal => ?_)
 refine zw1 ?_
 refine zu2 ?_
 refine ztR rfl (zcR rfl (ixfV_c k fn hfn hname hb cp hcp l p σ hl hf)) (fun v1_2 s1_2 hr => ?_) (fun v1_2 s1_2 hr => ?_)
 rotate_left
 ·obtain ⟨_, n, h, _⟩ := hr; cases h
 obtain ⟨rfl, n, h, hn⟩ := hr; cases h
 refine zv2 ?_
 refine zrt ?_
 refine ResQ_10 rfl hcl trivial (Ret_of ?_)
 congr 1
 rcases hn with ⟨h1, h2⟩ | ⟨h1, h2⟩
 ·rw [h1]; simp; exact h2
 ·rw [h1, h2]; rfl

theorem ixfM_c (k : Nat) (fn : Go.Func) (hfn : Tryd.prog.funcs[k]? = some fn) (hname : (fn.name == "runtime.NumGoroutine") = false) (hb : fn.body.isNone = false) (cp : List AV) (hcp : ∀ n, AV.ltL n cp) (l : List (ByteArray × JV)) (p : (ByteArray × JV) → Bool) (σ : List AO) (hl : l.length ≤ 1000000000) (hf : ∀ (i : Nat) x, l[i]? = some x → ACalls Tryd.prog k (.agg (.str x.1 :: vcells x.2) :: cp) σ (Ret (.bool (p x)) σ)) : ACalls Tryd.prog 112 [.sl false 9 (mcells l), .func (.func k) [] cp] σ (fun o σ' => σ' = σ ∧ ∃ n : Int, o = .ret (.int .i64 n) ∧ ((l.any p = true ∧ 0 ≤ n) ∨ (l.any p = false ∧ n = -1))) := by
 refine ACalls_body Tryd.func112 rfl Tryd.ntmps112 (res1 Tryd.results112) (Nat.le_of_ble_eq_true rfl) (fun hcl hal => ?_)
 refine zw1 ?_
 refine AWp_seq ?_
 refine zw3 ?_
 refine AWp_block ?_
 -- loop 0 LIVE 0:param 1:param 4:assign 7:call 8:move
 refine AWp_loop (ι := Nat) (fun i => i ≤ l.length ∧ ∀ (j : Nat) x, j < i → l[j]? = some x → p x = false) (fun i => ⟨[], [(0, .sl false 9 (mcells l)), (1, .func (.func k) [] cp), (7, .int .i64 (l.length : Int)), (8, .int .i64 (i : Int))]⟩) (fun i => σ) (fun i => l.length - i) (0) (⟨Nat.zero_le _, fun j x hj => absurd hj (by omega)⟩) ?_ rfl (fun i hi => ?_)
 ·refine ⟨rfl, rfl, rfl, ?_, rfl, trivial⟩
  rw [← mcells_length]; rfl
 obtain ⟨hi1, hi2⟩ := hi
 refine zw1 ?_
 refine AWp_seq ?_
 refine AWp_cond rfl (fun h1 => ?_) (fun h1 => ?_)
 ·(try rw [h1]); replace h1 := zcl h1
  have hlt : i < l.length := by omega
  obtain ⟨x, hx⟩ : ∃ x, l[i]? = some x := ⟨_, List.getElem?_eq_getElem hlt⟩
  refine AWp_skip ?_
  refine AWp_seq ?_
  refine AWp_block ?_
  refine zw2 ?_
  refine zu4 ?_
  rw [vcells_eq x.2]
  refine zg1 ?_
  refine zt rfl (op_callF rfl rfl rfl hfn hname hb (by have h0 := hf i x hx; rw [vcells_eq x.2] at h0; exact h0)) ?_
  refine zon ?_
  refine AWp_cond rfl (fun h2 => ?_) (fun h2 => ?_)
  ·(try rw [h2]); replace h2 := zcl h2
   refine zw2 ?_
   refine zrt ?_
   refine ResQ_10 rfl hcl ?_ ?_
   ·trivial
   ·exact ⟨rfl, _, rfl, .inl ⟨List.any_eq_true.2 ⟨x, List.mem_of_getElem? hx, h2⟩, by omega⟩⟩
  ·(try rw [h2]); replace h2 := zcl h2
   refine AWp_skip ?_
   refine AWp_regL ?_
   refine zv2 ?_
   refine ⟨i + 1, σ.length, ⟨by omega, fun j y hj hy => ?_⟩, by omega, Nat.le_refl _, ⟨rfl, rfl, rfl, rfl, rfl, trivial⟩, hcl, ?_, List.take_length⟩
   ·by_cases e : j = i
    ·subst e; rw [hx] at hy; cases hy; exact h2
    ·exact hi2 j y (by omega) hy
   ·simp [ltE, AV.lt, AV.ltL, hcp]
 ·(try rw [h1]); replace h1 := zcl h1
  refine AWp_exit ?_
  refine zw1 ?_
  refine zrt ?_
  refine ResQ_10 rfl hcl ?_ ⟨rfl, _, rfl, .inr ⟨?_, rfl⟩⟩
  trivial
  rw [List.any_eq_false]
  intro x hx
  obtain ⟨j, hj⟩ := List.getElem?_of_mem hx
  have := hi2 j x (by have := (List.getElem?_eq_some_iff.1 hj).1; omega) hj
  simp [this]

theorem ctfM_c (k : Nat) (fn : Go.Func) (hfn : Tryd.prog.funcs[k]? = some fn) (hname : (fn.name == "runtime.NumGoroutine") = false) (hb : fn.body.isNone = false) (cp : List AV) (hcp : ∀ n, AV.ltL n cp) (l : List (ByteArray × JV)) (p : (ByteArray × JV) → Bool) (σ : List AO) (hl : l.length ≤ 1000000000) (hf : ∀ (i : Nat) x, l[i]? = some x → ACalls Tryd.prog k (.agg (.str x.1 :: vcells x.2) :: cp) σ (Ret (.bool (p x)) σ)) : ACalls Tryd.prog 94 [.sl false 9 (mcells l), .func (.func k) [] cp] σ (Ret (.bool (l.any p)) σ) := by
 refine ACalls_body Tryd.func94 rfl Tryd.ntmps94 (res1 Tryd.results94) (Nat.le_of_ble_eq_true rfl) (fun hcl hal => ?_)
 refine zw1 ?_
 refine zu2 ?_
 refine ztR rfl (zcR rfl (ixfM_c k fn hfn hname hb cp hcp l p σ hl hf)) (fun v1_2 s1_2 hr => ?_) (fun v1_2 s1_2 hr => ?_)
 rotate_left
 ·obtain ⟨_, n, h, _⟩ := hr; cases h
 obtain ⟨rfl, n, h, hn⟩ := hr; cases h
 refine zv2 ?_
 refine zrt ?_
 refine ResQ_10 rfl hcl trivial (Ret_of ?_)
 congr 1
 rcases hn with ⟨h1, h2⟩ | ⟨h1, h2⟩
 ·rw [h1]; simp; exact h2
 ·rw [h1, h2]; rfl

theorem ixs_c (l : List ByteArray) (s : ByteArray) (f : Bool) (σ : List AO) (hl : l.length ≤ 1000000000) : ACalls Tryd.prog 110 [.sl f 1 (l.map fun x => [AV.str x]), .str s] σ (fun o σ' => σ' = σ ∧ ∃ n : Int, o = .ret (.int .i64 n) ∧ ((l.any (fun t => decide (s = t)) = true ∧ 0 ≤ n) ∨ (l.any (fun t => decide (s = t)) = false ∧ n = -1))) := by
 refine ACalls_body Tryd.func110 rfl Tryd.ntmps110 (res1 Tryd.results110) (Nat.le_of_ble_eq_true rfl) (fun hcl hal => ?_)
 refine zw1 ?_
 refine AWp_seq ?_
 refine zw3 ?_
 refine AWp_block ?_
 -- loop 0 LIVE 0:param 1:param 4:assign 7:call 8:move
 refine AWp_loop (ι := Nat) (fun i => i ≤ l.length ∧ ∀ (j : Nat) x, j < i → l[j]? = some x → ¬ s = x) (fun i => ⟨[], [(0, .sl f 1 (l.map fun x => [AV.str x])), (1, .str s), (7, .int .i64 (l.length : Int)), (8, .int .i64 (i : Int))]⟩) (fun i => σ) (fun i => l.length - i) (0) (⟨Nat.zero_le _, fun j x hj => absurd hj (by omega)⟩) ?_ rfl (fun i hi => ?_)
 ·exact ⟨rfl, rfl, rfl, congrArg (fun n : Nat => AV.int .i64 (n : Int)) (List.length_map _), rfl, trivial⟩
 obtain ⟨hi1, hi2⟩ := hi
 refine zw1 ?_
 refine AWp_seq ?_
 refine AWp_cond rfl (fun h1 => ?_) (fun h1 => ?_)
 ·(try rw [h1]); replace h1 := zcl h1
  obtain ⟨x, hx⟩ : ∃ x, l[i]? = some x := ⟨_, List.getElem?_eq_getElem (show i < l.length by omega)⟩
  have hxr : (l.map fun x => [AV.str x])[i]? = some [.str x] := by rw [List.getElem?_map, hx]; rfl
  refine AWp_skip ?_
  refine AWp_seq ?_
  refine AWp_block ?_
  refine zw2 ?_
  refine zu3 ?_
  refine zt rfl (op_indexAddr rfl Tryd.underlying48 Tryd.sizeOf9 rfl rfl (by omega) (hxr)) ?_
  refine zv2 ?_
  refine AWp_cond rfl (fun h2 => ?_) (fun h2 => ?_)
  ·(try rw [h2]); replace h2 := zcl h2
   refine zw2 ?_
   refine zrt ?_
   refine ResQ_10 rfl hcl trivial ⟨rfl, _, rfl, .inl ⟨List.any_eq_true.2 ⟨x, List.mem_of_getElem? hx, by simpa using h2⟩, by omega⟩⟩
  ·(try rw [h2]); replace h2 := zcl h2
   refine AWp_skip ?_
   refine AWp_regL ?_
   refine zv2 ?_
   refine ⟨i + 1, σ.length, ⟨by omega, fun j y hj hy => ?_⟩, by omega, Nat.le_refl _, ⟨rfl, rfl, rfl, rfl, rfl, trivial⟩, hcl, ?_, List.take_length⟩
   ·by_cases e : j = i
    ·subst e; rw [hx] at hy; cases hy; exact h2
    ·exact hi2 j y (by omega) hy
   ·simp [ltE, AV.lt, AV.ltL, ltLL_str]
 ·(try rw [h1]); replace h1 := zcl h1
  refine AWp_exit ?_
  refine zw1 ?_
  refine zrt ?_
  refine ResQ_10 rfl hcl trivial ⟨rfl, _, rfl, .inr ⟨?_, rfl⟩⟩
  rw [List.any_eq_false]
  intro x hx
  obtain ⟨j, hj⟩ := List.getElem?_of_mem hx
  have := hi2 j x (by have := (List.getElem?_eq_some_iff.1 hj).1; omega) hj
  simp [this]

theorem cts_c (l : List ByteArray) (s : ByteArray) (f : Bool) (σ : List AO) (hl : l.length ≤ 1000000000) : ACalls Tryd.prog 90 [.sl f 1 (l.map fun x => [AV.str x]), .str s] σ (Ret (.bool (l.any (fun t => decide (s = t)))) σ) := by
 refine ACalls_body Tryd.func90 rfl Tryd.ntmps90 (res1 Tryd.results90) (Nat.le_of_ble_eq_true rfl) (fun hcl hal => ?_)
 refine zw1 ?_
 refine zu2 ?_
 refine ztR rfl (zcR rfl (ixs_c l s f σ hl)) (fun v1_2 s1_2 hr => ?_) (fun v1_2 s1_2 hr => ?_)
 rotate_left
 ·obtain ⟨_, n, h, _⟩ := hr; cases h
 obtain ⟨rfl, n, h, hn⟩ := hr; cases h
 refine zv2 ?_
 refine zrt ?_
 refine ResQ_10 rfl hcl trivial (Ret_of ?_)
 congr 1
 rcases hn with ⟨h1, h2⟩ | ⟨h1, h2⟩
 ·rw [h1]; simp; exact h2
 ·rw [h1, h2]; rfl
end Lg
set_option maxRecDepth 20000
set_option maxHeartbeats 4000000
namespace Lg
open Go Go.Proofs Go.RowKit
variable [GLay] 
theorem pwhole_c (n : JNum) (σ : List AO) : ACalls Tryd.prog 93 [.agg (ncells n)] σ (Ret (.bool (decide (0 ≤ n.exp))) σ) := by
 refine ACalls_body Tryd.func93 rfl Tryd.ntmps93 (res1 Tryd.results93) (Nat.le_of_ble_eq_true rfl) (fun hcl hal => ?_)
 refine zw2 ?_
 refine zu2 ?_
 refine zt rfl (op_geq rfl rfl rfl) ?_
 refine zv1 ?_
 refine zrt ?_
 exact ResQ_1 rfl hcl trivial (Ret_of rfl)

theorem op_makeMapO {P : Program} {σ l : List AO} {e : Env} {o : Oper} {T : TypeId} (n : Nat) (hn : l.length = n) (ho : o.op = .makeMap T none) : AOp P (σ ++ l) e o (.mapv (σ.length + n)) (σ ++ (l ++ [.map []])) := by
  have := op_makeMap (P := P) (σ := σ ++ l) (e := e) ho
  rwa [List.length_append, hn, List.append_assoc] at this
theorem op_lookTx {P : Program} {σ l : List AO} {e : Env} {o : Oper} {T K E : TypeId} {a b : Operand} {k : ByteArray} {ks : List ByteArray} (j : Nat) (ho : o.op = .lookup T a b false) (hu : P.underlying T = some (.map K E)) (hK : P.underlying K = some .string) (hz : ∀ w, (zeroValue E).run P w = Result.ok (.bool false) w) (hx : opO e a = some (.mapv (σ.length + j))) (hy : opO e b = some (.str k))
    (hl : l[j]? = some (.map (smap (ks.map fun x => (x, AV.bool true))))) : AOp P (σ ++ l) e o (.bool (decide (k ∈ ks))) (σ ++ l) := by
  have h := op_lookupS (m := ks.map fun x => (x, AV.bool true)) (σ := σ ++ l) ho hu hK hz hx hy (by rw [get_own]; exact hl)
  rw [mget_map] at h
  by_cases hk : k ∈ ks
  · rw [if_pos hk] at h; rw [decide_eq_true hk]; exact h
  · rw [if_neg hk] at h; rw [decide_eq_false hk]; exact h
theorem op_updTx {P : Program} {σ l : List AO} {e : Env} {o : Oper} {T K E : TypeId} {a b c : Operand} {k : ByteArray} {ks : List ByteArray} (j : Nat) (ho : o.op = .mapUpdate T a b c) (hu : P.underlying T = some (.map K E)) (hK : P.underlying K = some .string) (hx : opO e a = some (.mapv (σ.length + j))) (hy : opO e b = some (.str k)) (hc : opO e c = some (.bool true))
    (hl : l[j]? = some (.map (smap (ks.map fun x => (x, AV.bool true))))) (hk : ¬ k ∈ ks) : AOp P (σ ++ l) e o .any (σ ++ l.set j (.map (smap ((ks ++ [k]).map fun x => (x, AV.bool true))))) := by
  have h := op_mapUpdS (m := ks.map fun x => (x, AV.bool true)) (σ := σ ++ l) ho hu hK hx hy hc (by rw [get_own]; exact hl) (by
    have := mget_map (.bool true) ks k
    rw [if_neg hk] at this
    simpa using this)
  rw [set_own] at h
  simpa using h
theorem AWp_freezeO {P : Program} {N : Nat} {Q : QA} {e : Env} {σ l : List AO} {c : Code} (t k : Nat) {cs : List AV} (hl : lookO e.l t = some (.ptr (σ.length + k) 0)) (hk : l[k]? = some (.box cs)) (h : AWp P N c (e.put (some t) (.pp cs)) (σ ++ l.set k .gone) Q) (ht : t < N) : AWp P N c e (σ ++ l) Q :=
  AWp_freeze t (σ.length + k) 0 hl (by rw [get_own]; exact hk) (by rw [set_own]; exact h) ht
theorem tx_lt (m : Nat) (ks : List ByteArray) : AV.ltL m (mflat (smap (ks.map fun x => (x, AV.bool true)))) := by
  induction ks with
  | nil => simp [smap, mflat, AV.ltL]
  | cons k r ih => simp [smap, mflat, AV.ltL, AV.lt]; simpa [smap] using ih
theorem tx_mem {l : List JV} {i : Nat} {x : JV} (hx : l[i]? = some x) (h : x.s ∈ (l.take i).map JV.s) (ht : txI l l.length) : False := by
  obtain ⟨y, hy, e⟩ := List.mem_map.1 h
  obtain ⟨b, hb⟩ := List.getElem?_of_mem hy
  rw [List.getElem?_take] at hb
  split at hb
  · rename_i hbi; exact (ht i x (List.getElem?_eq_some_iff.1 hx).1 hx).2 b y hbi hb e.symm
  · cases hb
theorem tx_step {l : List JV} {i : Nat} {x : JV} (hi : txI l i) (hx : l[i]? = some x) (h2 : x.kind = 3) (hnm : ¬ x.s ∈ (l.take i).map JV.s) : txI l (i + 1) := by
  intro a y ha hy
  by_cases e : a = i
  · subst e; rw [hx] at hy; cases hy
    exact ⟨h2, fun b z hb hz e => hnm (List.mem_map.2 ⟨z, List.mem_of_getElem? (i := b) (by rw [List.getElem?_take, if_pos hb]; exact hz), e.symm⟩)⟩
  · exact hi a y (by omega) hy
theorem sch_c (v : JV) (σ : List AO) : ACalls Tryd.prog 69 [.agg (vcells v)] σ (Ret (.bool (schB v)) σ) := by
 refine ACalls_body Tryd.func69 rfl Tryd.ntmps69 (res1 Tryd.results69) (Nat.le_of_ble_eq_true rfl) (fun hcl hal => ?_)
 rw [vcells_eq v]
 refine zw2 ?_
 refine zu4 ?_
 refine zsp 6 rfl (fun h1 => ?_) fun h1 => ?_
 ·rw [h1]; replace h1 := zcl h1
  refine zv5 ?_
  refine zrt ?_
  refine ResQ_1 rfl hcl trivial (Ret_of ?_)
  congr 1; simp [schB, *]
 ·rw [h1]; replace h1 := zcl h1
  refine zv5 ?_
  refine zrt ?_
  refine ResQ_1 rfl hcl trivial (Ret_of ?_)
  congr 1; simp [schB, *]

theorem some_c (v : JV) (σ : List AO) : ACalls Tryd.prog 65 [.agg (vcells v)] σ (Ret (.bool (kOK 2 v)) σ) := by
 refine ACalls_body Tryd.func65 rfl Tryd.ntmps65 (res1 Tryd.results65) (Nat.le_of_ble_eq_true rfl) (fun hcl hal => ?_)
 rw [vcells_eq v]
 refine zw2 ?_
 refine zu4 ?_
 refine zsp 6 rfl (fun h1 => ?_) fun h1 => ?_
 ·rw [h1]; replace h1 := zcl h1
  refine zv6 ?_
  refine zrt ?_
  refine ResQ_1 rfl hcl trivial (Ret_of ?_)
  congr 1; simp [kOK, lcells_length, *]
 ·rw [h1]; replace h1 := zcl h1
  refine zv6 ?_
  refine zrt ?_
  refine ResQ_1 rfl hcl trivial (Ret_of ?_)
  congr 1; simp [kOK, lcells_length, *]

theorem pwholeW_c (n : JNum) (σ : List AO) (h : rWhole n = decide (0 ≤ n.exp)) : ACalls Tryd.prog 93 [.agg (ncells n)] σ (Ret (.bool (rWhole n)) σ) := by
  rw [h]; exact pwhole_c n σ
theorem cnt_c (v : JV) (σ : List AO) (hw : v.kind = 2 → rWhole v.n = decide (0 ≤ v.n.exp)) : ACalls Tryd.prog 67 [.agg (vcells v)] σ (Ret (.bool (kOK 5 v)) σ) := by
 refine ACalls_body Tryd.func67 rfl Tryd.ntmps67 (res1 Tryd.results67) (Nat.le_of_ble_eq_true rfl) (fun hcl hal => ?_)
 rw [vcells_eq v]
 refine zw2 ?_
 refine zu4 ?_
 refine zsp 6 rfl (fun h1 => ?_) fun h1 => ?_
 ·rw [h1]; replace h1 := zcl h1
  refine zg2 ?_
  refine ztG rfl rfl (zc rfl (pwholeW_c v.n _ (hw h1))) ?_
  refine zg2 ?_
  refine zsp 11 rfl (fun h2 => ?_) fun h2 => ?_
  ·rw [h2]; replace h2 := zcl h2
   refine zv6 ?_
   refine zrt ?_
   refine ResQ_1 rfl hcl trivial (Ret_of ?_)
   congr 1; clear hw; simp [kOK, *]
  ·rw [h2]; replace h2 := zcl h2
   refine zv6 ?_
   refine zrt ?_
   refine ResQ_1 rfl hcl trivial (Ret_of ?_)
   congr 1; clear hw; simp [kOK, *]
 ·rw [h1]; replace h1 := zcl h1
  refine zg10 ?_
  refine zg1 ?_
  refine zon ?_
  refine zrt ?_
  refine ResQ_1 rfl hcl trivial (Ret_of ?_)
  congr 1; clear hw; simp [kOK, *]

theorem rul2_c (v : JV) (σ : List AO) : ACalls Tryd.prog 66 [.agg (vcells v)] σ (Ret (.bool true) σ) := by
 refine ACalls_body Tryd.func66 rfl Tryd.ntmps66 (res1 Tryd.results66) (Nat.le_of_ble_eq_true rfl) (fun hcl hal => ?_)
 rw [vcells_eq v]
 refine zw2 ?_
 refine zw1 ?_
 refine zrt ?_
 exact ResQ_1 rfl hcl trivial (Ret_of rfl)

theorem rul11_c (v : JV) (k : Int) (σ : List AO) : ACalls Tryd.prog 63 [.agg (vcells v), .pp [.int .i64 k]] σ (Ret (.bool (decide (v.kind = k))) σ) := by
 refine ACalls_body Tryd.func63 rfl Tryd.ntmps63 (res1 Tryd.results63) (Nat.le_of_ble_eq_true rfl) (fun hcl hal => ?_)
 rw [vcells_eq v]
 refine zw2 ?_
 refine zw5 ?_
 refine zrt ?_
 exact ResQ_1 rfl hcl trivial (Ret_of rfl)

theorem rul1_c (k : Int) (σ : List AO) : ACalls Tryd.prog 62 [.int .i64 k] σ (Ret (.func (.func 63) [] [.pp [.int .i64 k]]) σ) := by
 refine ACalls_body Tryd.func62 rfl Tryd.ntmps62 (res1 Tryd.results62) (Nat.le_of_ble_eq_true rfl) (fun hcl hal => ?_)
 refine zw2 ?_
 refine AWp_seq ?_
 refine AWp_freezeO 1 0 rfl rfl ?_ (by decide)
 refine AWp_regL ?_
 refine zv2 ?_
 refine zrt ?_
 exact ResQ_1 rfl hcl (show AV.lt σ.length (.func _ [] [.pp [.int .i64 k]]) by simp [AV.lt, AV.ltL]) (Ret_of rfl)

theorem txt_c (v : JV) (σ : List AO) (hl : v.l.length ≤ 1000000000) : ACalls Tryd.prog 68 [.agg (vcells v)] σ (Ret (.bool (txB v)) σ) := by
 refine ACalls_body Tryd.func68 rfl Tryd.ntmps68 (res1 Tryd.results68) (Nat.le_of_ble_eq_true rfl) (fun hcl hal => ?_)
 rw [vcells_eq v]
 refine zw2 ?_
 refine zsr ?_
 refine zt rfl (op_makeMapO 1 rfl rfl) ?_
 refine zv1 ?_
 refine AWp_seq ?_
 refine zw4 ?_
 refine AWp_block ?_
 -- loop 0 LIVE 1:box 2:assign 3:assign 8:load 9:call 10:move
 refine AWp_loop (ι := Nat) (fun i => i ≤ v.l.length ∧ txI v.l i) (fun i => ⟨[], [(1, .ptr (σ.length + 0) 0), (3, .mapv (σ.length + 1)), (8, .sl false 8 (lcells v.l)), (9, .int .i64 (v.l.length : Int)), (10, .int .i64 (i : Int))]⟩) (fun i => σ ++ [.box [.int .i64 v.kind, .bool v.b, .bool v.n.neg, .str v.n.digits, .int .i64 v.n.exp, .str v.s, .sl false 8 (lcells v.l), .sl false 9 (mcells v.m)], .map (smap (((v.l.take i).map JV.s).map fun x => (x, AV.bool true)))]) (fun i => v.l.length - i) (0) (⟨Nat.zero_le _, fun a x h => absurd h (by omega)⟩) ?_ rfl (fun i hi => ?_)
 ·refine ⟨rfl, rfl, rfl, rfl, ?_, rfl, trivial⟩
  rw [← lcells_length]; rfl
 obtain ⟨hi1, hi2⟩ := hi
 refine zw1 ?_
 refine AWp_seq ?_
 refine AWp_cond rfl (fun h1 => ?_) (fun h1 => ?_)
 ·(try rw [h1]); replace h1 := zcl h1
  obtain ⟨x, hx⟩ : ∃ x, v.l[i]? = some x := ⟨_, List.getElem?_eq_getElem (show i < v.l.length by omega)⟩
  refine AWp_skip ?_
  refine AWp_seq ?_
  refine AWp_block ?_
  refine zu1 ?_
  rw [vcells_eq x]
  refine zv3 ?_
  refine AWp_seq ?_
  refine zu4 ?_
  refine zsp 17 rfl (fun h2 => ?_) fun h2 => ?_
  ·rw [h2]; replace h2 := zcl h2
   refine zv5 ?_
   refine AWp_condT rfl ?_
   refine zw1 ?_
   refine zrt ?_
   refine ResQ_1 rfl hcl trivial (Ret_of ?_)
   congr 1; unfold txB; rw [pb_f (fun h => h2 (h i x (by omega) hx).1)]; rfl
  ·rw [h2]; replace h2 := zcl h2
   refine zg3 ?_
   refine ztG rfl rfl (op_lookTx 1 rfl Tryd.underlying117 Tryd.underlying9 Tryd.zeroValue4 rfl rfl rfl) ?_
   refine zv1 ?_
   refine AWp_cond rfl (fun h3 => ?_) (fun h3 => ?_)
   ·(try rw [h3]); replace h3 := zcl h3
    refine zw1 ?_
    refine zrt ?_
    refine ResQ_1 rfl hcl trivial (Ret_of ?_)
    congr 1; unfold txB; rw [pb_f (fun h => tx_mem hx h3 h)]; rfl
   ·(try rw [h3]); replace h3 := zcl h3
    have hnm := h3
    refine AWp_skip ?_
    refine AWp_regL ?_
    refine zg3 ?_
    refine ztN rfl rfl (op_updTx 1 rfl Tryd.underlying117 Tryd.underlying9 rfl rfl rfl rfl hnm) ?_
    refine zon ?_
    refine AWp_regL ?_
    refine zv2 ?_
    refine ⟨i + 1, σ.length + 2, ⟨by omega, ?_⟩, by omega, by simp, ⟨rfl, rfl, rfl, rfl, rfl, rfl, trivial⟩, closed_own 2 hcl ?_, ?_, ?_⟩
    ·exact tx_step hi2 hx h2 hnm
    ·show ownLt (σ.length + 2) [.box [.int .i64 v.kind, .bool v.b, .bool v.n.neg, .str v.n.digits, .int .i64 v.n.exp, .str v.s, .sl false 8 (lcells v.l), .sl false 9 (mcells v.m)], .map (smap (((List.take i v.l).map JV.s ++ [x.s]).map fun x => (x, AV.bool true)))]
     exact ⟨by simp [AO.cells, AV.ltL, AV.lt], tx_lt _ _, trivial⟩
    ·simp [ltE, AV.lt, AV.ltL]
    ·refine (take_own 2).trans ?_
     have e : (v.l.take (i + 1)).map JV.s = (v.l.take i).map JV.s ++ [x.s] := by rw [List.take_add_one, hx]; simp
     rw [e]; rfl
 ·(try rw [h1]); replace h1 := zcl h1
  refine AWp_exit ?_
  refine zw4 ?_
  refine zrt ?_
  refine ResQ_1 rfl hcl trivial (Ret_of ?_)
  congr 1; unfold txB; rw [pb_t (show txI v.l v.l.length by rw [← show i = v.l.length by omega]; exact hi2)]; rfl

theorem typ1_c (v : JV) (σ : List AO) : ACalls Tryd.prog 89 [.agg (vcells v)] σ (Ret (.bool (tyB v)) σ) := by
 refine ACalls_body Tryd.func89 rfl Tryd.ntmps89 (res1 Tryd.results89) (Nat.le_of_ble_eq_true rfl) (fun hcl hal => ?_)
 rw [vcells_eq v]
 refine zw2 ?_
 refine zu4 ?_
 refine zsp 6 rfl (fun h1 => ?_) fun h1 => ?_
 ·rw [h1]; replace h1 := zcl h1
  refine ztG rfl rfl (op_buildSlice [[_], [_], [_], [_], [_], [_], [_]] rfl Tryd.underlying48 Tryd.sizeOf9 Tryd.zeroValue9 rfl (by decide) (by decide) rfl rfl rfl rfl rfl) ?_
  refine zg2 ?_
  refine ztG rfl rfl (zc rfl (cts_c tyL v.s true _ (by decide))) ?_
  refine zv2 ?_
  refine zrt ?_
  refine ResQ_1 rfl hcl trivial (Ret_of ?_)
  congr 1; simp [tyB, *]
 ·rw [h1]; replace h1 := zcl h1
  refine zv6 ?_
  refine zrt ?_
  refine ResQ_1 rfl hcl trivial (Ret_of ?_)
  congr 1; simp [tyB, *]

theorem typ2_c (v : JV) (σ : List AO) : ACalls Tryd.prog 92 (.agg (vcells v) :: [.pp [.func (.func 89) [] []]]) σ (Ret (.bool (!tyB v)) σ) := by
 refine ACalls_body Tryd.func92 rfl Tryd.ntmps92 (res1 Tryd.results92) (Nat.le_of_ble_eq_true rfl) (fun hcl hal => ?_)
 rw [vcells_eq v]
 refine zw2 ?_
 refine zu2 ?_
 refine zt rfl (op_callF rfl rfl rfl (by exact Tryd.func89) rfl rfl (vcells_eq v ▸ typ1_c v _)) ?_
 refine zv2 ?_
 refine zrt ?_
 exact ResQ_1 rfl hcl trivial (Ret_of rfl)

theorem typ_c (v : JV) (σ : List AO) (hl : v.l.length ≤ 1000000000) : ACalls Tryd.prog 64 [.agg (vcells v)] σ (Ret (.bool (kOK 1 v)) σ) := by
 refine ACalls_body Tryd.func64 rfl Tryd.ntmps64 (res1 Tryd.results64) (Nat.le_of_ble_eq_true rfl) (fun hcl hal => ?_)
 rw [vcells_eq v]
 refine zw2 ?_
 refine zw2 ?_
 refine AWp_seq ?_
 refine AWp_freezeO 3 1 rfl rfl ?_ (by decide)
 refine AWp_regL ?_
 refine zg2 ?_
 refine zt rfl (op_callF rfl rfl rfl (by exact Tryd.func89) rfl rfl (vcells_eq v ▸ typ1_c v _)) ?_
 refine zg1 ?_
 refine zsp 7 rfl (fun h1 => ?_) fun h1 => ?_
 ·rw [h1]; replace h1 := zcl h1
  refine zg10 ?_
  refine zg7 ?_
  refine zon ?_
  refine zrt ?_
  refine ResQ_1 rfl hcl trivial (Ret_of ?_)
  congr 1; (try simp only [lcells_length] at *); simp [kOK, List.not_any_eq_all_not, *] <;> (intros; omega)
 ·rw [h1]; replace h1 := zcl h1
  refine zg1 ?_
  refine ztG rfl rfl (zc rfl (vcells_eq v ▸ txt_c v _ hl)) ?_
  refine zg1 ?_
  refine zsp 10 rfl (fun h2 => ?_) fun h2 => ?_
  ·rw [h2]; replace h2 := zcl h2
   refine zg6 ?_
   refine zsp 16 rfl (fun h3 => ?_) fun h3 => ?_
   ·rw [h3]; replace h3 := zcl h3
    refine zg3 ?_
    refine ztG rfl rfl (zc rfl (ctfV_c 92 _ Tryd.func92 rfl rfl [.pp [.func (.func 89) [] []]] (by simp [AV.ltL, AV.lt]) v.l (fun x => !tyB x) _ hl (fun i x hx => typ2_c x _))) ?_
    refine zv4 ?_
    refine zrt ?_
    refine ResQ_1 rfl hcl trivial (Ret_of ?_)
    congr 1; (try simp only [lcells_length] at *); simp [kOK, List.not_any_eq_all_not, *] <;> (intros; omega)
   ·rw [h3]; replace h3 := zcl h3
    refine zv8 ?_
    refine zrt ?_
    refine ResQ_1 rfl hcl trivial (Ret_of ?_)
    congr 1; (try simp only [lcells_length] at *); simp [kOK, List.not_any_eq_all_not, *] <;> (intros; omega)
  ·rw [h2]; replace h2 := zcl h2
   refine zg10 ?_
   refine zg4 ?_
   refine zon ?_
   refine zrt ?_
   refine ResQ_1 rfl hcl trivial (Ret_of ?_)
   congr 1; (try simp only [lcells_length] at *); simp [kOK, List.not_any_eq_all_not, *] <;> (intros; omega)

theorem schs1_c (v : JV) (σ : List AO) : ACalls Tryd.prog 96 [.agg (vcells v)] σ (Ret (.bool (!schB v)) σ) := by
 refine ACalls_body Tryd.func96 rfl Tryd.ntmps96 (res1 Tryd.results96) (Nat.le_of_ble_eq_true rfl) (fun hcl hal => ?_)
 rw [vcells_eq v]
 refine zw2 ?_
 refine zu1 ?_
 refine zt rfl (zc rfl (vcells_eq v ▸ sch_c v _)) ?_
 refine zv2 ?_
 refine zrt ?_
 exact ResQ_1 rfl hcl trivial (Ret_of rfl)

theorem schs_c (v : JV) (σ : List AO) (hl : v.l.length ≤ 1000000000) : ACalls Tryd.prog 71 [.agg (vcells v)] σ (Ret (.bool (kOK 10 v)) σ) := by
 refine ACalls_body Tryd.func71 rfl Tryd.ntmps71 (res1 Tryd.results71) (Nat.le_of_ble_eq_true rfl) (fun hcl hal => ?_)
 rw [vcells_eq v]
 refine zw2 ?_
 refine zu1 ?_
 refine zt rfl (zc rfl (vcells_eq v ▸ some_c v _)) ?_
 refine zg1 ?_
 refine zsp 5 rfl (fun h1 => ?_) fun h1 => ?_
 ·rw [h1]; replace h1 := zcl h1
  refine zg2 ?_
  refine ztG rfl rfl (zc rfl (ctfV_c 96 _ Tryd.func96 rfl rfl [] (by simp [AV.ltL]) v.l (fun x => !schB x) _ hl (fun i x hx => schs1_c x _))) ?_
  refine zv3 ?_
  refine zrt ?_
  refine ResQ_1 rfl hcl trivial (Ret_of ?_)
  congr 1; (try simp only [kOK] at *); simp [List.not_any_eq_all_not, *]
 ·rw [h1]; replace h1 := zcl h1
  refine zv6 ?_
  refine zrt ?_
  refine ResQ_1 rfl hcl trivial (Ret_of ?_)
  congr 1; (try simp only [kOK] at *); simp [List.not_any_eq_all_not, *]

theorem mem1_c (q : ByteArray × JV) (σ : List AO) : ACalls Tryd.prog 95 [.agg (.str q.1 :: vcells q.2)] σ (Ret (.bool (!schB q.2)) σ) := by
 refine ACalls_body Tryd.func95 rfl Tryd.ntmps95 (res1 Tryd.results95) (Nat.le_of_ble_eq_true rfl) (fun hcl hal => ?_)
 rw [vcells_eq q.2]
 refine zw2 ?_
 refine zu2 ?_
 refine zt rfl (zc rfl (vcells_eq q.2 ▸ sch_c q.2 _)) ?_
 refine zv2 ?_
 refine zrt ?_
 exact ResQ_1 rfl hcl trivial (Ret_of rfl)

theorem mem_c (v : JV) (σ : List AO) (hl : v.m.length ≤ 1000000000) : ACalls Tryd.prog 70 [.agg (vcells v)] σ (Ret (.bool (kOK 9 v)) σ) := by
 refine ACalls_body Tryd.func70 rfl Tryd.ntmps70 (res1 Tryd.results70) (Nat.le_of_ble_eq_true rfl) (fun hcl hal => ?_)
 rw [vcells_eq v]
 refine zw2 ?_
 refine zu4 ?_
 refine zsp 6 rfl (fun h1 => ?_) fun h1 => ?_
 ·rw [h1]; replace h1 := zcl h1
  refine zg2 ?_
  refine ztG rfl rfl (zc rfl (ctfM_c 95 _ Tryd.func95 rfl rfl [] (by simp [AV.ltL]) v.m (fun q => !schB q.2) _ hl (fun i q hq => mem1_c q _))) ?_
  refine zv3 ?_
  refine zrt ?_
  refine ResQ_1 rfl hcl trivial (Ret_of ?_)
  congr 1; simp [kOK, List.not_any_eq_all_not, *]
 ·rw [h1]; replace h1 := zcl h1
  refine zv6 ?_
  refine zrt ?_
  refine ResQ_1 rfl hcl trivial (Ret_of ?_)
  congr 1; simp [kOK, List.not_any_eq_all_not, *]
end Lg
