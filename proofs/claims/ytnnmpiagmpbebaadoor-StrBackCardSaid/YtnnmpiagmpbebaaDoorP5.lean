/- A part of the proof of What was quoted is unquoted as it was, whatever stands around it; cut off it is refused; what was unquoted, quoted, is unquoted as it was (StrBack), for all arguments that a machine can hold: Ln3 Ln4 Ln5 Ln6 Ln7 Ln8 Lq1 B3 Lq2 B4 Lg35 B5 Lg36 Lq3 B6 Lg37 B7 Lg38 B8 Lq4 Lg39. -/
import Derived.Test.YtnnmpiagmpbebaaDoorP4
import Derived.Test.YtnnmpiagmpbebaaDoorP3
import Derived.Lib.ItoaNum
import Derived.Lib.Atoi
import Derived.Laws.BitsLemmas
set_option linter.unusedVariables false
set_option linter.unusedSimpArgs false
set_option linter.unusedSectionVars false
namespace Lg
open Go
/-! ### What a number's text comes to -/
def ba (l : BL) : ByteArray := ⟨l.toArray⟩
theorem ba_toList (l : BL) : (ba l).data.toList = l := by simp [ba]
theorem ba_size (l : BL) : (ba l).size = l.length := by
  have : (ba l).data.toList.length = (ba l).size := Array.length_toList
  rw [← this, ba_toList]
theorem ba_ext {a b : ByteArray} (h : a.data.toList = b.data.toList) : a = b := by
  cases a; cases b; congr 1; exact Array.ext' h
theorem ba_eta (d : ByteArray) : d = ba d.data.toList := ba_ext (by rw [ba_toList])
theorem u8b_byte (b : UInt8) : u8b (b.toNat : Int) = b := by
  unfold u8b; simp
def satL (x : Int) (l : BL) : Int := l.foldl (fun x b => min (10 * x + (b.toNat : Int) - 48) 1000000) x
def valL (x : Int) (l : BL) : Int := l.foldl (fun x b => 10 * x + (b.toNat : Int) - 48) x
def aD (l : BL) : Prop := ∀ b ∈ l, isD b = true
theorem aD_cons {b : UInt8} {l : BL} (h : aD (b :: l)) : (48 ≤ b.toNat ∧ b.toNat ≤ 57) ∧ aD l := ⟨(isD_iff b).1 (h b (List.mem_cons_self ..)), fun c hc => h c (List.mem_cons_of_mem _ hc)⟩
theorem satL_eq : ∀ (l : BL) (v : Int), aD l → 0 ≤ v → satL (min v 1000000) l = min (valL v l) 1000000
  | [], v, _, _ => rfl
  | b :: l, v, h, hv => by
    have hb := aD_cons h
    show satL (min (10 * (min v 1000000) + (b.toNat : Int) - 48) 1000000) l = min (valL (10 * v + (b.toNat : Int) - 48) l) 1000000
    rw [← satL_eq l _ hb.2 (by omega)]
    congr 1; omega
theorem valL_ge : ∀ (l : BL) (v : Int), aD l → 0 ≤ v → v * 10 ^ l.length ≤ valL v l
  | [], v, _, _ => by simp [valL]
  | b :: l, v, h, hv => by
    have hb := aD_cons h
    show v * 10 ^ (l.length + 1) ≤ valL (10 * v + (b.toNat : Int) - 48) l
    refine Int.le_trans ?_ (valL_ge l _ hb.2 (by omega))
    rw [Int.pow_succ', ← Int.mul_assoc]
    exact Int.mul_le_mul_of_nonneg_right (by omega) (Int.pow_nonneg (by decide))
theorem valL_zeros (l : BL) : valL 0 (l.dropWhile (· == 48)) = valL 0 l := by
  induction l with
  | nil => rfl
  | cons b l ih =>
    by_cases h : b = 48
    · subst h
      simp only [List.dropWhile_cons, beq_self_eq_true, if_true, ih]
      rfl
    · have : (b == 48) = false := by simpa using h
      simp [List.dropWhile_cons, this]
/-- small's size. -/
def smallN (x : BL) : Int := if (x.dropWhile (· == 48)).length < 15 then valL 0 (x.dropWhile (· == 48)) else 1000000000000000
theorem aD_dw {l : BL} (h : aD l) : aD (l.dropWhile (· == 48)) := fun b hb => h b ((List.dropWhile_sublist _).mem hb)
theorem smallN_sat {x : BL} (h : aD x) : min (smallN x) 1000000 = satL 0 x ∧ 0 ≤ smallN x := by
  have h0 : satL 0 x = min (valL 0 x) 1000000 := satL_eq x 0 h (Int.le_refl _)
  rw [h0, ← valL_zeros x]
  have hd := aD_dw h
  have hge := valL_ge _ 0 hd (Int.le_refl _)
  rw [Int.zero_mul] at hge
  unfold smallN
  split
  · exact ⟨rfl, hge⟩
  · rename_i hl
    refine ⟨?_, by decide⟩
    cases hx : x.dropWhile (· == 48) with
    | nil => rw [hx] at hl; simp at hl
    | cons c r =>
      rw [hx] at hl hd
      have hc := aD_cons hd
      have hc48 : ¬ c = 48 := by
        intro e
        have := List.head_dropWhile_not (p := (· == (48 : UInt8))) (l := x) (by rw [hx]; simp)
        simp [hx, e] at this
      have hc2 : ¬ c.toNat = 48 := fun e => hc48 (UInt8.toNat_inj.1 e)
      have hv : valL 0 (c :: r) = valL (10 * 0 + (c.toNat : Int) - 48) r := rfl
      have h1 := valL_ge r (10 * 0 + (c.toNat : Int) - 48) hc.2 (by omega)
      have h2 : (10 : Int) ^ 14 ≤ 10 ^ r.length := by
        have := Nat.pow_le_pow_right (n := 10) (by decide) (show 14 ≤ r.length by simp at hl; omega)
        have h5 : ((10 ^ 14 : Nat) : Int) ≤ ((10 ^ r.length : Nat) : Int) := Int.ofNat_le.2 this
        rw [Int.natCast_pow, Int.natCast_pow] at h5
        exact h5
      have h3 : (1 : Int) * 10 ^ r.length ≤ (10 * 0 + (c.toNat : Int) - 48) * 10 ^ r.length := Int.mul_le_mul_of_nonneg_right (by omega) (Int.pow_nonneg (by decide))
      have h4 : (10 : Int) ^ 14 = 100000000000000 := by decide
      rw [hv]; omega
/-! #### The loop over the text -/
abbrev nfold (l : BL) (t : NSt) : NSt := l.foldl (fun t b => nstep b.toNat t) t
theorem fold_dig : ∀ (l : BL) (ng dn pt : Bool) (d : ByteArray) (b x : Int), aD l → nfold l ⟨ng, dn, pt, false, d, b, x⟩ = ⟨ng, dn, pt, false, ba (d.data.toList ++ l), b + (if pt = true then (l.length : Int) else 0), x⟩
  | [], ng, dn, pt, d, b, x, _ => by
    have : ba (d.data.toList ++ []) = d := by rw [List.append_nil]; exact (ba_eta d).symm
    rw [this]; cases pt <;> simp
  | c :: l, ng, dn, pt, d, b, x, h => by
    have hc := aD_cons h
    have h1 : nstep c.toNat ⟨ng, dn, pt, false, d, b, x⟩ = ⟨ng, dn, pt, false, d ++ ⟨#[c]⟩, if pt = true then b + 1 else b, x⟩ := by
      simp only [nstep, Bool.false_eq_true, if_false, u8b_byte]
      rw [if_neg (by omega), if_neg (by omega), if_neg (by omega)]
    show nfold l (nstep c.toNat _) = _
    rw [h1, fold_dig l ng dn pt _ _ x hc.2]
    congr 1
    · rw [show (d ++ ⟨#[c]⟩ : ByteArray).data.toList = d.data.toList ++ [c] by simp]; simp
    · cases pt <;> simp <;> omega
theorem fold_exp : ∀ (l : BL) (ng dn pt : Bool) (d : ByteArray) (b x : Int), aD l → nfold l ⟨ng, dn, pt, true, d, b, x⟩ = ⟨ng, dn, pt, true, d, b, satL x l⟩
  | [], ng, dn, pt, d, b, x, _ => rfl
  | c :: l, ng, dn, pt, d, b, x, h => by
    have hc := aD_cons h
    have h1 : nstep c.toNat ⟨ng, dn, pt, true, d, b, x⟩ = ⟨ng, dn, pt, true, d, b, min (10 * x + (c.toNat : Int) - 48) 1000000⟩ := by
      simp only [nstep, if_true]
      rw [if_neg (by omega), if_pos hc.1]
    show nfold l (nstep c.toNat _) = _
    rw [h1, fold_exp l ng dn pt d b _ hc.2]; rfl
theorem aD_of_len {l : BL} (h : (l.takeWhile isD).length = l.length) : aD l := by
  have h1 : l.takeWhile isD = l := by
    have := List.takeWhile_append_dropWhile (p := isD) (l := l)
    rw [dw_nil.2 h, List.append_nil] at this; exact this
  intro b hb
  rw [← h1] at hb
  exact List.all_eq_true.1 (List.all_takeWhile (p := isD) (l := l)) b hb
theorem aD_tw (l : BL) : aD (l.takeWhile isD) := fun b hb => List.all_eq_true.1 (List.all_takeWhile (p := isD) (l := l)) b hb
def hd45 : BL → Bool
  | [] => false
  | b :: _ => b == 45
theorem fold_pow {r : BL} (h : (pExp r).2 = true) (ng pt : Bool) (d : ByteArray) (b : Int) : ∃ pw, nfold r ⟨ng, false, pt, false, d, b, 0⟩ = ⟨ng, hd45 (pExp r).1, pt, pw, d, b, satL 0 (strip 45 (pExp r).1)⟩ ∧ aD (strip 45 (pExp r).1) ∧ (pExp r).1 ≠ [] := by
  cases r with
  | nil => exact ⟨false, rfl, fun b hb => by simp [pExp, strip] at hb; subst hb; rfl, by simp [pExp]⟩
  | cons e q =>
    simp only [pExp, Bool.and_eq_true, Bool.or_eq_true, decide_eq_true_eq, Bool.not_eq_true', Bool.and_eq_false_iff, decide_eq_false_iff_not] at h
    obtain ⟨he, hne, hall, hpl⟩ := h
    have hX := aD_of_len hall
    refine ⟨true, ?_, hX, ?_⟩
    · have h1 : nstep e.toNat ⟨ng, false, pt, false, d, b, 0⟩ = ⟨ng, false, pt, true, d, b, 0⟩ := by
        simp only [nstep, Bool.false_eq_true, if_false]
        rw [if_neg (by omega), if_neg (by omega), if_pos he]
      show nfold q (nstep e.toNat _) = _
      rw [h1]
      simp only [pExp]
      cases q with
      | nil => simp [strip] at hne
      | cons c q2 =>
        by_cases h43 : c.toNat = 43
        · rw [strip_eq h43] at hne hX hpl ⊢
          have hc : nstep c.toNat ⟨ng, false, pt, true, d, b, 0⟩ = ⟨ng, false, pt, true, d, b, 0⟩ := by
            simp only [nstep, if_true]; rw [if_neg (by omega), if_neg (by omega)]
          show nfold q2 (nstep c.toNat _) = _
          have hq : strip 45 q2 = q2 := by
            rcases hpl with h | h
            · exfalso; apply h; intro e; have := congrArg List.length e; simp at this
            · simpa using h
          rw [hq] at hX ⊢
          rw [hc, fold_exp q2 _ _ _ _ _ _ hX]
          congr 1
          cases q2 with
          | nil => rfl
          | cons f q3 =>
            have := aD_cons hX
            have : ¬ f = 45 := fun e => by subst e; simp at this
            simp [hd45, this]
        · rw [strip_ne h43] at hne hX hpl ⊢
          by_cases h45 : c.toNat = 45
          · rw [strip_eq h45] at hX ⊢
            have hc45 : c = 45 := UInt8.toNat_inj.1 h45
            have hc : nstep c.toNat ⟨ng, false, pt, true, d, b, 0⟩ = ⟨ng, true, pt, true, d, b, 0⟩ := by
              simp only [nstep, if_true]; rw [if_pos h45, if_neg (by omega)]
            show nfold q2 (nstep c.toNat _) = _
            rw [hc, fold_exp q2 _ _ _ _ _ _ hX]
            simp [hd45, hc45]
          · rw [strip_ne h45] at hX ⊢
            rw [fold_exp _ _ _ _ _ _ _ hX]
            have : ¬ c = 45 := fun e => h45 (by rw [e]; rfl)
            simp [hd45, this]
    · simp only [pExp]
      intro e
      rw [e] at hne; simp [strip] at hne
end Lg
namespace Lg
open Go
/-! ### Zeros cut off -/
def cutL (l : BL) : BL := l.dropWhile (· == 48)
def cutR (l : BL) : BL := (l.reverse.dropWhile (· == 48)).reverse
theorem dropWhile_drop' (p : UInt8 → Bool) (l : BL) : l.dropWhile p = l.drop (l.takeWhile p).length := by
  induction l with
  | nil => rfl
  | cons b r ih =>
    by_cases h : p b = true
    · simp [List.dropWhile_cons, List.takeWhile_cons, h, ih]
    · simp [List.dropWhile_cons, List.takeWhile_cons, h]
theorem fz_list (d : ByteArray) (i : Nat) : fz d i = i + ((d.data.toList.drop i).takeWhile (· == 48)).length := by
  by_cases h : i < d.size ∧ (bat d i).toNat = 48
  · have h1 : (bat d i == 48) = true := by simpa using UInt8.toNat_inj.1 h.2
    rw [fz_yes h.1 h.2, bat_list h.1, List.takeWhile_cons, if_pos h1, List.length_cons, fz_list d (i + 1)]; omega
  · rw [fz_no h]
    by_cases h1 : i < d.size
    · have h2 : ¬ (bat d i == 48) = true := fun e => h ⟨h1, by rw [show bat d i = 48 by simpa using e]; rfl⟩
      rw [bat_list h1, List.takeWhile_cons, if_neg h2]; rfl
    · rw [drop_end (by omega)]; rfl
termination_by d.size - i
theorem cutR_snoc (l : BL) (c : UInt8) : cutR (l ++ [c]) = if c = 48 then cutR l else l ++ [c] := by
  unfold cutR
  rw [List.reverse_append]
  by_cases h : c = 48
  · simp [h]
  · have : (c == 48) = false := by simpa using h
    simp [List.dropWhile_cons, this, h]
theorem take_snoc {l : BL} {k : Nat} (h : k < l.length) : l.take (k + 1) = l.take k ++ [l.getD k 0] := by
  rw [List.take_add_one, List.getD_eq_getElem?_getD, List.getElem?_eq_getElem h]; rfl
theorem lz_list (d : ByteArray) (f : Nat) : ∀ l : Nat, f ≤ l → l ≤ d.size → lz d f l = f + (cutR ((d.data.toList.take l).drop f)).length
  | 0, h, _ => by
    have : f = 0 := by omega
    subst this; simp [lz, cutR]
  | l + 1, h, hl => by
    have hlen : d.data.toList.length = d.size := Array.length_toList
    rw [lz]
    by_cases hf : f = l + 1
    · subst hf
      rw [if_neg (by omega)]
      have : (d.data.toList.take (l + 1)).drop (l + 1) = [] := List.drop_eq_nil_of_le (by rw [List.length_take]; omega)
      rw [this]; rfl
    · have ht : (d.data.toList.take (l + 1)).drop f = (d.data.toList.take l).drop f ++ [bat d l] := by
        rw [take_snoc (by omega), List.drop_append_of_le_length (by rw [List.length_take]; omega)]; rfl
      rw [ht, cutR_snoc]
      by_cases hb : (bat d l).toNat = 48
      · rw [if_pos ⟨by omega, hb⟩, if_pos (UInt8.toNat_inj.1 hb), lz_list d f l (by omega) (by omega)]
      · rw [if_neg (fun h => hb h.2), if_neg (fun e => hb (by rw [e]; rfl))]
        simp only [List.length_append, List.length_drop, List.length_take, List.length_cons, List.length_nil]; omega
theorem cutR_len (l : BL) : (cutR l).length ≤ l.length := by
  unfold cutR
  have := (List.dropWhile_sublist (l := l.reverse) (· == (48 : UInt8))).length_le
  simpa using this
theorem cutR_pre (l : BL) : cutR l = l.take (cutR l).length := by
  have h := List.takeWhile_append_dropWhile (p := (· == (48 : UInt8))) (l := l.reverse)
  have h2 : l = cutR l ++ (l.reverse.takeWhile (· == 48)).reverse := by
    unfold cutR
    rw [← List.reverse_append, h, List.reverse_reverse]
  have h3 := congrArg (List.take (cutR l).length) h2
  rw [List.take_left' rfl] at h3
  exact h3.symm
theorem cutR_nil {l : BL} (h : ∀ b ∈ l.head?, b ≠ 48) : cutR l = [] ↔ l = [] := by
  constructor
  · intro e
    cases l with
    | nil => rfl
    | cons b r =>
      exfalso
      have hb := h b rfl
      have : b ∈ (b :: r).reverse.dropWhile (· == 48) := by
        have h1 := List.takeWhile_append_dropWhile (p := (· == (48 : UInt8))) (l := (b :: r).reverse)
        have h2 : b ∈ (b :: r).reverse := by simp
        rw [← h1] at h2
        rcases List.mem_append.1 h2 with h3 | h3
        · have := List.all_eq_true.1 (List.all_takeWhile (p := (· == (48 : UInt8))) (l := (b :: r).reverse)) b h3
          simp at this; exact absurd this hb
        · exact h3
      unfold cutR at e
      rw [List.reverse_eq_nil_iff] at e
      rw [e] at this; simp at this
  · rintro rfl; rfl
theorem cutR_last {l : BL} (h : cutR l ≠ []) : (cutR l).getLast h ≠ 48 := by
  unfold cutR at h ⊢
  rw [List.getLast_reverse]
  have := List.head_dropWhile_not (p := (· == (48 : UInt8))) (l := l.reverse) (fun e => h (by rw [e]; rfl))
  simpa using this
theorem cutL_head (l : BL) : ∀ b ∈ (cutL l).head?, b ≠ 48 := fun b hb => by
  unfold cutL at hb
  have := List.head?_dropWhile_not (p := (· == (48 : UInt8))) l
  rw [Option.mem_def.1 hb] at this
  simpa using this
theorem cutR_head {l : BL} (h : cutR l ≠ []) : (cutR l).head? = l.head? := by
  rw [cutR_pre]
  cases l with
  | nil => simp
  | cons b r =>
    have : 0 < (cutR (b :: r)).length := List.length_pos_iff.2 h
    cases hk : (cutR (b :: r)).length with
    | zero => omega
    | succ k => rfl
/-- The program's number of a text. -/
def pNum (l : BL) : JNum × Int :=
  if (pParts (strip 45 l)).2.2.2 = false then ({}, 1) else
  if cutL ((pParts (strip 45 l)).1 ++ (pParts (strip 45 l)).2.1) = [] then ({}, 0) else
  if 60 < (cutR (cutL ((pParts (strip 45 l)).1 ++ (pParts (strip 45 l)).2.1))).length ∨
     1000 < (if hd45 (pParts (strip 45 l)).2.2.1 = true then -smallN (strip 45 (pParts (strip 45 l)).2.2.1) else smallN (strip 45 (pParts (strip 45 l)).2.2.1)) - (pParts (strip 45 l)).2.1.length + (cutL ((pParts (strip 45 l)).1 ++ (pParts (strip 45 l)).2.1)).length - (cutR (cutL ((pParts (strip 45 l)).1 ++ (pParts (strip 45 l)).2.1))).length ∨
     (if hd45 (pParts (strip 45 l)).2.2.1 = true then -smallN (strip 45 (pParts (strip 45 l)).2.2.1) else smallN (strip 45 (pParts (strip 45 l)).2.2.1)) - (pParts (strip 45 l)).2.1.length + (cutL ((pParts (strip 45 l)).1 ++ (pParts (strip 45 l)).2.1)).length - (cutR (cutL ((pParts (strip 45 l)).1 ++ (pParts (strip 45 l)).2.1))).length < -1000 then ({}, 5) else
  (⟨hd45 l, ba (cutR (cutL ((pParts (strip 45 l)).1 ++ (pParts (strip 45 l)).2.1))),
    (if hd45 (pParts (strip 45 l)).2.2.1 = true then -smallN (strip 45 (pParts (strip 45 l)).2.2.1) else smallN (strip 45 (pParts (strip 45 l)).2.2.1)) - (pParts (strip 45 l)).2.1.length + (cutL ((pParts (strip 45 l)).1 ++ (pParts (strip 45 l)).2.1)).length - (cutR (cutL ((pParts (strip 45 l)).1 ++ (pParts (strip 45 l)).2.1))).length⟩, 0)
/-- What the loop over a number's text has gathered. -/
theorem gathered {m : BL} (h : (pParts m).2.2.2 = true) (ng : Bool) : ∃ pt pw, nfold m ⟨ng, false, false, false, e0, 0, 0⟩ = ⟨ng, hd45 (pParts m).2.2.1, pt, pw, ba ((pParts m).1 ++ (pParts m).2.1), ((pParts m).2.1.length : Int), satL 0 (strip 45 (pParts m).2.2.1)⟩ ∧
    aD (strip 45 (pParts m).2.2.1) ∧ (pParts m).2.2.1 ≠ [] ∧ aD ((pParts m).1 ++ (pParts m).2.1) ∧ (pParts m).1 ≠ [] ∧ (pParts m).1.length + (pParts m).2.1.length ≤ m.length := by
  unfold pParts at h ⊢
  split at h
  · simp at h
  · rename_i hc
    rw [if_neg hc]
    cases hp : pFrac (m.dropWhile isD) with
    | none => rw [hp] at h; simp at h
    | some p =>
      obtain ⟨f, r⟩ := p
      rw [hp] at h
      simp only at h ⊢
      have hm := List.takeWhile_append_dropWhile (p := isD) (l := m)
      have hW := aD_tw m
      have hlen := congrArg List.length hm
      rw [List.length_append] at hlen
      have hWne : m.takeWhile isD ≠ [] := fun e => hc (.inl (by rw [e]; rfl))
      have he0 : e0.data.toList = [] := rfl
      have hb0 : ∀ l : BL, ba (e0.data.toList ++ l) = ba l := fun l => by rw [he0, List.nil_append]
      cases hd : m.dropWhile isD with
      | nil =>
        rw [hd] at hp hlen
        simp only [pFrac, Option.some.injEq, Prod.mk.injEq] at hp
        obtain ⟨rfl, rfl⟩ := hp
        obtain ⟨pw, h1, h2, h3⟩ := fold_pow h ng false (ba (m.takeWhile isD)) 0
        refine ⟨false, pw, ?_, h2, h3, by rw [List.append_nil]; exact hW, hWne, by simp at hlen ⊢; omega⟩
        conv => lhs; rw [← hm, hd, List.append_nil]
        rw [fold_dig _ _ _ _ _ _ _ hW, hb0, List.append_nil]
        simpa [nfold] using h1
      | cons b q =>
        rw [hd] at hp hlen
        simp only [pFrac] at hp
        split at hp
        · rename_i h46
          split at hp
          · cases hp
          · rename_i hq
            simp only [Option.some.injEq, Prod.mk.injEq] at hp
            obtain ⟨rfl, rfl⟩ := hp
            have hq2 := List.takeWhile_append_dropWhile (p := isD) (l := q)
            have hF := aD_tw q
            have hlen2 := congrArg List.length hq2
            rw [List.length_append] at hlen2
            obtain ⟨pw, h1, h2, h3⟩ := fold_pow h ng true (ba (m.takeWhile isD ++ q.takeWhile isD)) (q.takeWhile isD).length
            refine ⟨true, pw, ?_, h2, h3, fun c hcm => (List.mem_append.1 hcm).elim (hW c) (hF c), hWne, by simp at hlen; omega⟩
            have hdot : nstep b.toNat ⟨ng, false, false, false, ba (m.takeWhile isD), 0, 0⟩ = ⟨ng, false, true, false, ba (m.takeWhile isD), 0, 0⟩ := by
              simp only [nstep, Bool.false_eq_true, if_false]; rw [if_neg (by omega), if_pos h46]
            conv => lhs; rw [← hm, hd]
            show List.foldl _ _ _ = _
            rw [List.foldl_append, show List.foldl (fun t (b : UInt8) => nstep b.toNat t) ⟨ng, false, false, false, e0, 0, 0⟩ (m.takeWhile isD) = _ from fold_dig _ _ _ _ _ _ _ hW, hb0]
            rw [List.foldl_cons]
            simp only [Bool.false_eq_true, if_false, Int.add_zero]
            rw [hdot]
            conv => lhs; rw [← hq2]
            rw [List.foldl_append, show List.foldl (fun t (b : UInt8) => nstep b.toNat t) ⟨ng, false, true, false, ba (m.takeWhile isD), 0, 0⟩ (q.takeWhile isD) = _ from fold_dig _ _ _ _ _ _ _ hF, ba_toList]
            simpa [nfold] using h1
        · simp only [Option.some.injEq, Prod.mk.injEq] at hp
          obtain ⟨rfl, rfl⟩ := hp
          obtain ⟨pw, h1, h2, h3⟩ := fold_pow h ng false (ba (m.takeWhile isD)) 0
          refine ⟨false, pw, ?_, h2, h3, by rw [List.append_nil]; exact hW, hWne, by simp at hlen ⊢; omega⟩
          conv => lhs; rw [← hm, hd]
          show List.foldl _ _ _ = _
          rw [List.foldl_append, show List.foldl (fun t (b : UInt8) => nstep b.toNat t) ⟨ng, false, false, false, e0, 0, 0⟩ (m.takeWhile isD) = _ from fold_dig _ _ _ _ _ _ _ hW, hb0, List.append_nil]
          simpa [nfold] using h1
end Lg
namespace Lg
open Go
theorem bat_getD (d : ByteArray) (i : Nat) : bat d i = d.data.toList.getD i 0 := rfl
theorem bat_ba (l : BL) (i : Nat) : bat (ba l) i = l.getD i 0 := by rw [bat_getD, ba_toList]
theorem digs_aD {l : BL} (h : aD l) : digs (ba l) l.length := fun j hj => by
  unfold dig
  rw [bat_ba, List.getD_eq_getElem?_getD, List.getElem?_eq_getElem hj]
  exact (isD_iff _).1 (h _ (List.getElem_mem hj))
/-- A number of trimmed digits may be just if it isn't large. -/
theorem numMay_cut {l : BL} (hl : aD l) (hne : l ≠ []) (hh : ∀ b ∈ l.head?, b ≠ 48) (ng : Bool) (x : Int) :
    NumMay ⟨ng, ba (cutR l), x⟩ ↔ (cutR l).length ≤ 60 ∧ -1000 ≤ x ∧ x ≤ 1000 := by
  have hc : cutR l ≠ [] := fun e => hne ((cutR_nil hh).1 e)
  have hpos : 0 < (cutR l).length := List.length_pos_iff.2 hc
  have hne2 : ¬ ba (cutR l) = ⟨#[]⟩ := fun e => by
    have := congrArg ByteArray.size e
    rw [ba_size] at this
    change (cutR l).length = 0 at this
    omega
  have hsub : aD (cutR l) := fun b hb => by
    rw [cutR_pre] at hb
    exact hl b (List.mem_of_mem_take hb)
  have hfirst : (bat (ba (cutR l)) 0).toNat ≠ 48 := by
    rw [bat_ba]
    have h1 := cutR_head hc
    cases hk : cutR l with
    | nil => exact absurd hk hc
    | cons b r =>
      rw [hk] at h1
      have := hh b (by rw [← h1]; rfl)
      simp only [List.getD_cons_zero]
      exact fun e => this (UInt8.toNat_inj.1 e)
  have hlast : (bat (ba (cutR l)) ((ba (cutR l)).size - 1)).toNat ≠ 48 := by
    rw [bat_ba, ba_size]
    have h1 := cutR_last hc
    have h2 : (cutR l).getD ((cutR l).length - 1) 0 = (cutR l).getLast hc := by
      rw [List.getLast_eq_getElem, List.getD_eq_getElem?_getD, List.getElem?_eq_getElem (by omega)]; rfl
    rw [h2]
    exact fun e => h1 (UInt8.toNat_inj.1 e)
  unfold NumMay
  constructor
  · rintro (⟨h, _⟩ | ⟨_, _, h2, _, _, h3, h4⟩)
    · exact absurd h hne2
    · rw [ba_size] at h2; exact ⟨h2, h3, h4⟩
  · rintro ⟨h2, h3, h4⟩
    refine .inr ⟨hne2, ?_, by rw [ba_size]; exact h2, hfirst, hlast, h3, h4⟩
    show digs (ba (cutR l)) (ba (cutR l)).size
    rw [ba_size]; exact digs_aD hsub
theorem strip_len (c : Nat) (l : BL) : (strip c l).length ≤ l.length := by
  cases l with
  | nil => exact Nat.le_refl _
  | cons b r =>
    by_cases h : b.toNat = c
    · rw [strip_eq h]; simp
    · rw [strip_ne h]; exact Nat.le_refl _
/-- The reference's number is the program's. -/
theorem rNum_pNum (s : ByteArray) (hs : s.size ≤ 1000) : rNum s = pNum s.data.toList := by
  have hiff := rEnd_iff s
  have hlen : s.data.toList.length = s.size := Array.length_toList
  unfold rNum pNum
  by_cases hok : ¬ (pParts (strip 45 s.data.toList)).2.2.2 = true
  · have hf : (pParts (strip 45 s.data.toList)).2.2.2 = false := by simpa using hok
    rw [if_pos hf, if_pos (Decidable.byContradiction fun h => hok (hiff.1 h))]
  · have hok := Decidable.not_not.1 hok
    rw [if_neg (hiff.2 hok), if_neg (show ¬ (pParts (strip 45 s.data.toList)).2.2.2 = false by rw [hok]; simp)]
    -- the loop
    have hfold : ∃ pt pw, nloop s 0 nst0 = ⟨hd45 s.data.toList, hd45 (pParts (strip 45 s.data.toList)).2.2.1, pt, pw, ba ((pParts (strip 45 s.data.toList)).1 ++ (pParts (strip 45 s.data.toList)).2.1), ((pParts (strip 45 s.data.toList)).2.1.length : Int), satL 0 (strip 45 (pParts (strip 45 s.data.toList)).2.2.1)⟩ := by
      rw [nloop_fold, List.drop_zero]
      cases hl : s.data.toList with
      | nil => rw [hl] at hok; simp [strip, pParts] at hok
      | cons b r =>
        rw [hl] at hok
        by_cases hb : b.toNat = 45
        · have hb45 : b = 45 := UInt8.toNat_inj.1 hb
          obtain ⟨pt, pw, h1, _⟩ := gathered hok true
          refine ⟨pt, pw, ?_⟩
          rw [strip_eq hb] at h1 ⊢
          have hst : nstep b.toNat nst0 = ⟨true, false, false, false, e0, 0, 0⟩ := by
            simp only [nst0, nstep, Bool.false_eq_true, if_false]; rw [if_pos hb]
          rw [List.foldl_cons, hst]
          have hh : hd45 (b :: r) = true := by simp [hd45, hb45]
          rw [hh]; exact h1
        · obtain ⟨pt, pw, h1, _⟩ := gathered hok false
          refine ⟨pt, pw, ?_⟩
          rw [strip_ne hb] at h1 ⊢
          have hh : hd45 (b :: r) = false := by
            simp only [hd45, beq_eq_false_iff_ne, ne_eq]; exact fun e => hb (by rw [e]; rfl)
          rw [hh]; exact h1
    obtain ⟨_, _, _, hX, hXne, hD, hWne, hDl⟩ := gathered hok true
    obtain ⟨pt, pw, hT⟩ := hfold
    rw [hT]
    generalize pParts (strip 45 s.data.toList) = P at *
    obtain ⟨W, F, E, ok⟩ := P
    simp only at *
    generalize hDD : W ++ F = D at *
    have hDsz : (ba D).size = D.length := ba_size D
    have hstripl : (strip 45 s.data.toList).length ≤ s.size := by
      rw [← hlen]; exact strip_len 45 _
    have hDn : D.length = W.length + F.length := by rw [← hDD]; simp
    have hnF : nF ⟨hd45 s.data.toList, hd45 E, pt, pw, ba D, F.length, satL 0 (strip 45 E)⟩ = (D.takeWhile (· == 48)).length := by
      unfold nF; rw [fz_list, ba_toList]; simp
    have hfl : (D.takeWhile (· == 48)).length ≤ D.length := (List.takeWhile_sublist _).length_le
    have hdrop : D.drop (D.takeWhile (· == 48)).length = cutL D := (dropWhile_drop' _ D).symm
    have hnL : nL ⟨hd45 s.data.toList, hd45 E, pt, pw, ba D, F.length, satL 0 (strip 45 E)⟩ = (D.takeWhile (· == 48)).length + (cutR (cutL D)).length := by
      unfold nL; rw [hnF]
      simp only
      rw [lz_list _ _ _ (by rw [hDsz]; exact hfl) (Nat.le_refl _), ba_toList, hDsz, List.take_length, hdrop]
    have hcl : (cutL D).length = D.length - (D.takeWhile (· == 48)).length := by rw [← hdrop, List.length_drop]
    have hcr := cutR_len (cutL D)
    have hnil := cutR_nil (cutL_head D)
    rw [hnF, hnL]
    by_cases hall : cutL D = []
    · rw [if_pos (by rw [hall]; rfl), if_pos hall]
    · have hcne : cutR (cutL D) ≠ [] := fun e => hall (hnil.1 e)
      have hcpos : 0 < (cutR (cutL D)).length := List.length_pos_iff.2 hcne
      rw [if_neg (by omega), if_neg hall]
      have hofd : (ba D).extract (D.takeWhile (· == 48)).length ((D.takeWhile (· == 48)).length + (cutR (cutL D)).length) = ba (cutR (cutL D)) := by
        apply ba_ext
        rw [ba_toList]
        have : ((ba D).extract (D.takeWhile (· == 48)).length ((D.takeWhile (· == 48)).length + (cutR (cutL D)).length)).data.toList = (D.drop (D.takeWhile (· == 48)).length).take (cutR (cutL D)).length := by
          simp [ByteArray.data_extract, List.extract_eq_take_drop, ba]
        rw [this, hdrop, ← cutR_pre]
      have hsat := smallN_sat hX
      have hof : nOf ⟨hd45 s.data.toList, hd45 E, pt, pw, ba D, F.length, satL 0 (strip 45 E)⟩ = ⟨hd45 s.data.toList, ba (cutR (cutL D)), (if hd45 E = true then -satL 0 (strip 45 E) else satL 0 (strip 45 E)) - F.length + ((cutL D).length - (cutR (cutL D)).length)⟩ := by
        unfold nOf
        rw [hnF, hnL]
        simp only [hofd, nsgn, hDsz]
        congr 1
        omega
      rw [hof]
      have hmay := numMay_cut (l := cutL D) (aD_dw (l := D) hD) hall (cutL_head D) (hd45 s.data.toList) ((if hd45 E = true then -satL 0 (strip 45 E) else satL 0 (strip 45 E)) - F.length + ((cutL D).length - (cutR (cutL D)).length))
      by_cases hbig : satL 0 (strip 45 E) < 1000000
      · have he : smallN (strip 45 E) = satL 0 (strip 45 E) := by omega
        rw [he]
        have hx : ∀ y : Int, y - F.length + (cutL D).length - (cutR (cutL D)).length = y - F.length + ((cutL D).length - (cutR (cutL D)).length) := fun y => by omega
        rw [hx]
        generalize (if hd45 E = true then -satL 0 (strip 45 E) else satL 0 (strip 45 E)) = z at *
        by_cases hm : NumMay ⟨hd45 s.data.toList, ba (cutR (cutL D)), z - F.length + ((cutL D).length - (cutR (cutL D)).length)⟩
        · have := hmay.1 hm
          rw [if_pos hm, if_neg (by omega)]
        · have := mt hmay.2 hm
          rw [if_neg hm, if_pos (by omega)]
      · have hS : satL 0 (strip 45 E) = 1000000 := by omega
        have hb2 : 1000000 ≤ smallN (strip 45 E) := by omega
        have hm : ¬ NumMay ⟨hd45 s.data.toList, ba (cutR (cutL D)), (if hd45 E = true then -satL 0 (strip 45 E) else satL 0 (strip 45 E)) - F.length + ((cutL D).length - (cutR (cutL D)).length)⟩ := fun h => by
          have := hmay.1 h
          by_cases hh : hd45 E = true
          · rw [if_pos hh] at this; omega
          · rw [if_neg hh] at this; omega
        rw [if_neg hm]
        clear hof hmay hm
        have hl1 : (60 < (cutR (cutL D)).length ∨
     1000 < (if hd45 E = true then -smallN (strip 45 E) else smallN (strip 45 E)) - F.length + (cutL D).length - (cutR (cutL D)).length ∨
     (if hd45 E = true then -smallN (strip 45 E) else smallN (strip 45 E)) - F.length + (cutL D).length - (cutR (cutL D)).length < -1000) := by
          by_cases hh : hd45 E = true
          · rw [if_pos hh]; omega
          · rw [if_neg hh]; omega
        rw [if_pos hl1]
end Lg
namespace Lg
open Go
theorem ba_inj {a b : BL} : ba a = ba b ↔ a = b := ⟨fun h => by rw [← ba_toList a, h, ba_toList], fun h => by rw [h]⟩
theorem ba_nil {a : BL} : ba a = ⟨#[]⟩ ↔ a = [] := ba_inj (b := [])
theorem ba_ex (l : BL) (i j : Nat) : (ba l).extract i j = ba ((l.take j).drop i) := by
  apply ba_ext
  rw [ba_toList]
  simp [ByteArray.data_extract, List.extract_eq_take_drop, ba, List.drop_take]
theorem ba_app (a b : BL) : ba a ++ ba b = ba (a ++ b) := ba_ext (by simp [ba])
theorem ba_pre (l : BL) (n : Nat) : (ba l).extract 0 n = ba (l.take n) := by rw [ba_ex]; rfl
theorem ba_suf (l : BL) (n : Nat) : (ba l).extract n (ba l).size = ba (l.drop n) := by rw [ba_ex, ba_size, List.take_length]
theorem ba_suf1 (b : UInt8) (l : BL) : (ba (b :: l)).extract 1 (ba (b :: l)).size = ba l := ba_suf _ 1
theorem tw_take (l : BL) : l.take (l.takeWhile isD).length = l.takeWhile isD := by
  have h := List.takeWhile_append_dropWhile (p := isD) (l := l)
  conv => lhs; arg 2; rw [← h]
  rw [List.take_left']; rfl
theorem runl_ba (l : BL) : runl (ba l) 0 = (l.takeWhile isD).length := by rw [runl_tw, ba_toList]; rfl
theorem hd45_strip (l : BL) : (strip 45 l ≠ l) ↔ hd45 l = true := by
  cases l with
  | nil => simp [strip, hd45]
  | cons b r =>
    by_cases h : b.toNat = 45
    · have hb : b = 45 := UInt8.toNat_inj.1 h
      rw [strip_eq h]
      simp only [hd45, hb, beq_self_eq_true, iff_true]
      intro e; have := congrArg List.length e; simp at this
    · have hb : ¬ b = 45 := fun e => h (by rw [e]; rfl)
      rw [strip_ne h]; simp [hd45, hb]
theorem ex1 (b : UInt8) (r : BL) (c : UInt8) : ((ba (b :: r)).extract 0 1 = (⟨#[c]⟩ : ByteArray)) ↔ b.toNat = c.toNat := by
  rw [ba_pre]
  have : (⟨#[c]⟩ : ByteArray) = ba [c] := rfl
  rw [this, ba_inj]
  simp [UInt8.toNat_inj]
def hdC (c : UInt8) : BL → Bool
  | [] => false
  | b :: _ => decide (b.toNat = c.toNat)
theorem bat0 (b : UInt8) (r : BL) : bat (ba (b :: r)) 0 = b := bat_ba _ 0
theorem cutL_cons (b : UInt8) (r : BL) : cutL (b :: r) = if b = 48 then cutL r else b :: r := by
  unfold cutL
  by_cases h : b = 48
  · simp [h]
  · have : (b == 48) = false := by simpa using h
    simp [List.dropWhile_cons, this, h]
theorem cutR_take {l : BL} (h : 0 < l.length) : cutR l = if l.getD (l.length - 1) 0 = 48 then cutR (l.take (l.length - 1)) else l := by
  have h1 : l = l.take (l.length - 1) ++ [l.getD (l.length - 1) 0] := by
    have := take_snoc (l := l) (k := l.length - 1) (by omega)
    rw [show l.length - 1 + 1 = l.length by omega, List.take_length] at this
    exact this
  conv => lhs; rw [h1]
  rw [cutR_snoc]
  split
  · rfl
  · exact h1.symm
end Lg
namespace Lg
open Go
def jsign (n : JNum) : Int := if n.digits = ⟨#[]⟩ then 0 else if n.neg = true then -1 else 1
def cmpI (a b : Int) : Int := if a < b then -1 else if b < a then 1 else 0
def cmpS (a b : ByteArray) : Int := if blt a b = true then -1 else if (blt a b || decide (a = b)) = false then 1 else 0
def pCmp (a b : JNum) : Int := if jsign a = jsign b then jsign a * (if cmpI (a.digits.size + a.exp) (b.digits.size + b.exp) = 0 then cmpS a.digits b.digits else cmpI (a.digits.size + a.exp) (b.digits.size + b.exp)) else cmpI (jsign a) (jsign b)
def zer (k : Int) : BL := List.replicate k.toNat 48
/-- A number's digits, up to a power of ten. -/
def jexp (n : JNum) (low : Int) : ByteArray := if n.digits = ⟨#[]⟩ then ⟨#[]⟩ else n.digits ++ ba (zer (n.exp - low))
def lessS (x y : ByteArray) : Bool := if x.size = y.size then blt x y else decide (x.size < y.size)
def rLess (a b : JNum) : Bool :=
  if a.neg = b.neg then (if a.neg = true then lessS (jexp b (min a.exp b.exp)) (jexp a (min a.exp b.exp)) else lessS (jexp a (min a.exp b.exp)) (jexp b (min a.exp b.exp))) else a.neg
def rCmp (a b : JNum) : Int := if rLess a b = true then -1 else if rLess b a = true then 1 else 0
def itoaB (n : Int) : ByteArray := ba (Lib.itoa n)
theorem dd_small {u : Nat} (h : u < 10) : Lib.decDigits u = [UInt8.ofNat (48 + u)] := by rw [Lib.decDigits, dif_pos h]
theorem dd_big {u : Nat} (h : ¬ u < 10) : Lib.decDigits u = Lib.decDigits (u / 10) ++ [UInt8.ofNat (48 + u % 10)] := by rw [Lib.decDigits, dif_neg h]
theorem itoa_neg {n : Int} (h : n < 0) : itoaB n = (⟨#[45]⟩ : ByteArray) ++ itoaB (-n) := by
  unfold itoaB Lib.itoa
  rw [if_pos h, if_neg (by omega), show n.natAbs = (-n).toNat by omega]
  have : (⟨#[45]⟩ : ByteArray) = ba [45] := rfl
  rw [this, ba_app]; rfl
theorem itoa_small {n : Int} (h : 0 ≤ n) (h1 : n < 10) : itoaB n = ⟨#[u8b (48 + n)]⟩ := by
  unfold itoaB Lib.itoa
  rw [if_neg (by omega), dd_small (by omega)]
  have e : u8b (48 + n) = UInt8.ofNat (48 + n.toNat) := by unfold u8b; congr 1; omega
  rw [e]; rfl
theorem itoa_big {n : Int} (h1 : 10 ≤ n) : itoaB n = itoaB (n / 10) ++ (⟨#[u8b (48 + n % 10)]⟩ : ByteArray) := by
  unfold itoaB Lib.itoa
  rw [if_neg (by omega), if_neg (by omega), dd_big (by omega)]
  have e : u8b (48 + n % 10) = UInt8.ofNat (48 + n.toNat % 10) := by unfold u8b; congr 1; omega
  have e2 : (⟨#[u8b (48 + n % 10)]⟩ : ByteArray) = ba [UInt8.ofNat (48 + n.toNat % 10)] := by rw [e]; rfl
  rw [e2, ba_app]
  congr 3; omega
theorem dd_len (u : Nat) : ∀ k, u < 10 ^ (k + 1) → (Lib.decDigits u).length ≤ k + 1 := by
  intro k
  induction k generalizing u with
  | zero => intro h; rw [dd_small (by simpa using h)]; exact Nat.le_refl _
  | succ k ih =>
    intro h
    by_cases h1 : u < 10
    · rw [dd_small h1]; simp
    · rw [dd_big h1, List.length_append]
      have := ih (u / 10) (by rw [Nat.pow_succ] at h; omega)
      simp; omega
theorem itoa_size {n : Int} (h0 : -9223372036854775808 ≤ n) (h1 : n ≤ 9223372036854775807) : (itoaB n).size ≤ 21 := by
  unfold itoaB
  rw [ba_size]
  unfold Lib.itoa
  split
  · have := dd_len n.natAbs 19 (by omega)
    simp; omega
  · have := dd_len n.toNat 19 (by omega); omega
def jshow (n : JNum) : ByteArray :=
  if n.digits = ⟨#[]⟩ then ⟨#[48]⟩ else
  if n.exp = 0 then (if n.neg = true then (⟨#[45]⟩ : ByteArray) ++ n.digits else n.digits) else (if n.neg = true then (⟨#[45]⟩ : ByteArray) ++ n.digits else n.digits) ++ (⟨#[101]⟩ : ByteArray) ++ itoaB n.exp
def rWhole (n : JNum) : Bool := decide (n.digits = ⟨#[]⟩) || decide (0 ≤ n.exp)
theorem pParts_no {l : BL} (h : (l.takeWhile isD).length = 0 ∨ (1 < (l.takeWhile isD).length ∧ l.headD 0 = 48)) : pParts l = ([], [], [], false) := by unfold pParts; rw [if_pos h]
theorem pParts_none {l : BL} (h : ¬ ((l.takeWhile isD).length = 0 ∨ (1 < (l.takeWhile isD).length ∧ l.headD 0 = 48))) (h2 : pFrac (l.dropWhile isD) = none) : pParts l = ([], [], [], false) := by unfold pParts; rw [if_neg h, h2]
theorem pParts_some {l : BL} {f r : BL} (h : ¬ ((l.takeWhile isD).length = 0 ∨ (1 < (l.takeWhile isD).length ∧ l.headD 0 = 48))) (h2 : pFrac (l.dropWhile isD) = some (f, r)) : pParts l = (l.takeWhile isD, f, (pExp r).1, (pExp r).2) := by unfold pParts; rw [if_neg h, h2]
end Lg
namespace Lg
open Go
theorem hdC_true {c : UInt8} {l : BL} (h : hdC c l = true) : ∃ b q, l = b :: q ∧ b.toNat = c.toNat := by
  cases l with
  | nil => simp [hdC] at h
  | cons b q => exact ⟨b, q, rfl, by simpa [hdC] using h⟩
theorem hdC_strip {c : UInt8} {l : BL} (h : hdC c l = false) : strip c.toNat l = l := by
  cases l with
  | nil => rfl
  | cons b q => exact strip_ne (by simpa [hdC] using h)
theorem hdC_cons (c b : UInt8) (q : BL) : hdC c (b :: q) = decide (b.toNat = c.toNat) := rfl
theorem strip_ne_iff (c : UInt8) (l : BL) : (strip c.toNat l ≠ l) ↔ hdC c l = true := by
  cases l with
  | nil => simp [strip, hdC]
  | cons b r =>
    by_cases h : b.toNat = c.toNat
    · rw [strip_eq h]; simp only [hdC, h, decide_true, iff_true]
      intro e; have := congrArg List.length e; simp at this
    · rw [strip_ne h]; simp [hdC, h]
theorem pFrac_dot {b : UInt8} {q : BL} (h : b.toNat = 46) (h2 : ¬ (q.takeWhile isD).length = 0) : pFrac (b :: q) = some (q.takeWhile isD, q.dropWhile isD) := by
  simp only [pFrac]; rw [if_pos h, if_neg (by rw [List.isEmpty_iff_length_eq_zero]; exact h2)]
theorem pFrac_bad {b : UInt8} {q : BL} (h : b.toNat = 46) (h2 : (q.takeWhile isD).length = 0) : pFrac (b :: q) = none := by
  simp only [pFrac]; rw [if_pos h, if_pos (by rw [List.isEmpty_iff_length_eq_zero]; exact h2)]
theorem pFrac_not {l : BL} (h : hdC 46 l = false) : pFrac l = some ([], l) := by
  cases l with
  | nil => rfl
  | cons b q => simp only [pFrac]; rw [if_neg (by simpa [hdC] using h)]
theorem pFrac_len {l f r : BL} (h : pFrac l = some (f, r)) : f.length + r.length ≤ l.length := by
  cases l with
  | nil => simp [pFrac] at h; obtain ⟨rfl, rfl⟩ := h; simp
  | cons b q =>
    simp only [pFrac] at h
    split at h
    · split at h
      · cases h
      · simp only [Option.some.injEq, Prod.mk.injEq] at h
        obtain ⟨rfl, rfl⟩ := h
        have := congrArg List.length (List.takeWhile_append_dropWhile (p := isD) (l := q))
        simp only [List.length_append, List.length_cons] at this ⊢; omega
    · simp only [Option.some.injEq, Prod.mk.injEq] at h
      obtain ⟨rfl, rfl⟩ := h
      simp
theorem pExp2 (b : UInt8) (q : BL) : (pExp (b :: q)).2 = ((decide (b.toNat = 101) || decide (b.toNat = 69)) && (!decide (strip 45 (strip 43 q) = []) && (decide (((strip 45 (strip 43 q)).takeWhile isD).length = (strip 45 (strip 43 q)).length) && !(hdC 43 q && decide (strip 45 (strip 43 q) ≠ strip 43 q))))) := by
  have h43 : decide (strip 43 q ≠ q) = hdC 43 q := by
    have := strip_ne_iff 43 q
    have e : (43 : UInt8).toNat = 43 := rfl
    rw [e] at this
    cases h : hdC 43 q with
    | true => exact decide_eq_true (this.2 h)
    | false => exact decide_eq_false (fun k => by rw [this.1 k] at h; cases h)
  have hn : (strip 45 (strip 43 q)).isEmpty = decide (strip 45 (strip 43 q) = []) := by cases strip 45 (strip 43 q) <;> rfl
  unfold pExp
  simp only [h43, hn]
theorem pExp3 (b : UInt8) (q : BL) : (pExp (b :: q)).2 = ((decide ((b.toNat : Int) = 101) || decide ((b.toNat : Int) = 69)) && (!decide (strip 45 (strip 43 q) = []) && (decide ((((strip 45 (strip 43 q)).takeWhile isD).length : Int) = ((ba (strip 45 (strip 43 q))).size : Int)) && !(hdC 43 q && decide (strip 45 (strip 43 q) ≠ strip 43 q))))) := by
  rw [pExp2]
  have e1 : decide ((b.toNat : Int) = 101) = decide (b.toNat = 101) := decide_eq_decide.2 (by omega)
  have e2 : decide ((b.toNat : Int) = 69) = decide (b.toNat = 69) := decide_eq_decide.2 (by omega)
  have e3 : decide ((((strip 45 (strip 43 q)).takeWhile isD).length : Int) = ((ba (strip 45 (strip 43 q))).size : Int)) = decide (((strip 45 (strip 43 q)).takeWhile isD).length = (strip 45 (strip 43 q)).length) := decide_eq_decide.2 (by rw [ba_size]; omega)
  rw [e1, e2, e3]
end Lg
namespace Lg
open Go
/-! ### A text in quotes -/
def hxd (n : Nat) : UInt8 := (([48, 49, 50, 51, 52, 53, 54, 55, 56, 57, 97, 98, 99, 100, 101, 102] : BL).getD n 0)
def qch (b : UInt8) : BL := if b.toNat = 34 ∨ b.toNat = 92 then [92, b] else if b.toNat < 32 then [92, 117, 48, 48, hxd (b.toNat / 16), hxd (b.toNat % 16)] else [b]
def qbody (l : BL) : BL := l.flatMap qch
def quoteL (l : BL) : BL := 34 :: qbody l ++ [34]
theorem qch_len (b : UInt8) : (qch b).length ≤ 6 := by unfold qch; split <;> (try split) <;> simp
theorem qbody_len (l : BL) : (qbody l).length ≤ 6 * l.length := by
  induction l with
  | nil => simp [qbody]
  | cons b l ih =>
    have := qch_len b
    simp only [qbody, List.flatMap_cons, List.length_append, List.length_cons] at *
    omega
theorem qbody_snoc (l : BL) (b : UInt8) : qbody (l ++ [b]) = qbody l ++ qch b := by simp [qbody]
theorem qbody_take {l : BL} {i : Nat} (h : i < l.length) : qbody (l.take (i + 1)) = qbody (l.take i) ++ qch (l.getD i 0) := by rw [take_snoc h, qbody_snoc]
theorem qch1 {b : UInt8} (h : b.toNat = 34 ∨ b.toNat = 92) : qch b = [92, b] := by unfold qch; rw [if_pos h]
theorem qch2 {b : UInt8} (h : ¬ (b.toNat = 34 ∨ b.toNat = 92)) (h2 : b.toNat < 32) : qch b = [92, 117, 48, 48, hxd (b.toNat / 16), hxd (b.toNat % 16)] := by unfold qch; rw [if_neg h, if_pos h2]
theorem qch3 {b : UInt8} (h : ¬ (b.toNat = 34 ∨ b.toNat = 92)) (h2 : ¬ b.toNat < 32) : qch b = [b] := by unfold qch; rw [if_neg h, if_neg h2]
end Lg
set_option maxRecDepth 20000
set_option maxHeartbeats 4000000
namespace Lg
open Go Go.Proofs Go.RowKit
variable [GLay] 
theorem wbO (c : UInt8) {σ : List AO} {a : AV} {l : BL} (ha : a = .ptr σ.length 0 ∨ ∃ U n, a = .nilT σ.length U n ∧ liesAt Tryd.prog Tryd.prog.depth U (n / Tryd.prog.cellsOf U) 0 58 1 = true) (hlen : l.length + 1 ≤ 100000000) : ACalls Tryd.prog 31 [.ptr σ.length 0, .int .u8 (c.toNat : Int)] (bldr σ a 5 l) (Ret .nili (bldr σ (.ptr σ.length 0) 5 (l ++ [c]))) := by
  have h := wb_c c (bld_T (P := Tryd.prog) (B := 58) (E := 5) ha) hlen
  have e : l.length + 1 = (l ++ [c]).length := by simp
  rw [e, bld_set] at h; exact h
theorem wsO (s : ByteArray) {σ : List AO} {a : AV} {l : BL} (ha : a = .ptr σ.length 0 ∨ ∃ U n, a = .nilT σ.length U n ∧ liesAt Tryd.prog Tryd.prog.depth U (n / Tryd.prog.cellsOf U) 0 58 1 = true) (hlen : l.length + s.size ≤ 100000000) : ACalls Tryd.prog 32 [.ptr σ.length 0, .str s] (bldr σ a 5 l) (Ret (.tup [.int .i64 s.size, .nili]) (bldr σ (.ptr σ.length 0) 5 (l ++ s.data.toList))) := by
  have h := ws_c s (bld_T (P := Tryd.prog) (B := 58) (E := 5) ha) hlen
  have e : l.length + s.size = (l ++ s.data.toList).length := by rw [List.length_append]; rfl
  rw [e, bld_set] at h; exact h
theorem strO {σ : List AO} {a : AV} {l : BL} (ha : a = .ptr σ.length 0 ∨ ∃ U n, a = .nilT σ.length U n ∧ liesAt Tryd.prog Tryd.prog.depth U (n / Tryd.prog.cellsOf U) 0 58 1 = true) (hlen : l.length ≤ 100000000) : ACalls Tryd.prog 33 [.ptr σ.length 0] (bldr σ a 5 l) (Ret (.str (ba l)) (σ ++ [.box [a, .bts (σ.length + 1) l.length], .dead])) := by
  have h := bstr_c (bld_T (P := Tryd.prog) (B := 58) (E := 5) ha) hlen
  have e : (bldr σ a 5 l).set (σ.length + 1) .dead = σ ++ [.box [a, .bts (σ.length + 1) l.length], .dead] := by
    unfold bldr; rw [List.set_append_right _ _ (by omega), Nat.add_sub_cancel_left]; rfl
  rw [e] at h; exact h
theorem quote_c (l : BL) (σ : List AO) (hl : l.length ≤ 1000000) : ACalls Tryd.prog 10 [.str (ba l)] σ (Ret (.str (ba (quoteL l))) σ) := by
 refine ACalls_body Tryd.func10 rfl Tryd.ntmps10 (res1 Tryd.results10) (Nat.le_of_ble_eq_true rfl) (fun hcl hal => ?_)
 have hbs : (ba l).size = l.length := ba_size l
 have hql := qbody_len l
 have hql2 := fun i : Nat => qbody_len (l.take i)
 refine zw1 ?_
 refine zsr ?_
 refine zt rfl (op_allocT (cs := [.nilp, .nils]) 0 rfl Tryd.zeroValue58 rfl rfl) ?_
 refine zon ?_
 refine AWp_seq ?_
 refine AWp_ghostB0 5 ?_
 rw [show σ ++ [AO.box [AV.nilT σ.length 58 ([AV.nilp, AV.nils] : List AV).length, .bts (σ.length + 1) 0], .bytes 5 []] = bldr σ (.nilT σ.length 58 2) 5 [] from rfl]
 refine AWp_regL ?_
 refine zt rfl (zc rfl (wbO 34 (.inr ⟨_, _, rfl, by kernel_rfl⟩) (by simp))) ?_
 refine zon ?_
 refine AWp_seq ?_
 refine zw3 ?_
 refine AWp_block ?_
 -- loop 0 LIVE 0:param 2:assign 3:alloc 8:call 9:move
 refine AWp_loop (ι := Nat) (fun i => i ≤ l.length) (fun i => ⟨[], [(0, .str (ba l)), (3, .ptr σ.length 0), (8, .int .i64 (l.length : Int)), (9, .int .i64 (i : Int))]⟩) (fun i => bldr σ (.ptr σ.length 0) 5 (34 :: qbody (l.take i))) (fun i => l.length - i) (0) (Nat.zero_le _) ?_ rfl (fun i hi => ?_)
 ·exact ⟨rfl, rfl, rfl, by first | rfl | (rw [hbs]; rfl), rfl, trivial⟩
 have hqt := qbody_len (l.take i)
 rw [List.length_take] at hqt
 refine zw1 ?_
 refine AWp_seq ?_
 refine AWp_cond rfl (fun h1 => ?_) (fun h1 => ?_)
 ·(try rw [h1]); replace h1 := zcl h1
  refine AWp_skip ?_
  refine AWp_seq ?_
  refine AWp_block ?_
  refine zw2 ?_
  refine zu3 ?_
  simp only [Int.toNat_natCast]
  rw [show bat (ba l) i = l.getD i 0 from bat_ba l i]
  have hc := qbody_take (l := l) (i := i) (by omega)
  generalize l.getD i 0 = c at hc ⊢
  refine zv1 ?_
  refine AWp_block ?_
  refine zu3 ?_
  refine zsp 20 rfl (fun h2 => ?_) fun h2 => ?_
  ·rw [h2]; replace h2 := zcl h2
   refine zv4 ?_
   refine AWp_condT rfl ?_
   refine zsr ?_
   refine zt rfl (zc rfl (wbO 92 (.inl rfl) (by simp only [List.length_cons]; omega))) ?_
   refine zon ?_
   refine AWp_regL ?_
   refine zg1 ?_
   refine zt rfl (zc rfl (wbO c (.inl rfl) (by simp only [List.length_append, List.length_cons, List.length_nil]; omega))) ?_
   refine zon ?_
   refine AWp_regL ?_
   refine zv2 ?_
   refine ⟨i + 1, σ.length + 2, by omega, by omega, by simp [bldr], ⟨rfl, rfl, rfl, rfl, rfl, trivial⟩, closed_bldr hcl (by simp [AV.lt]), ?_, ?_⟩
   ·simp [ltE, AV.lt]
   ·rw [take_bldr, hc]; first | (rw [qch1 (by omega)]; simp) | (rw [qch2 (by omega) (by omega)]; simp) | (rw [qch3 (by omega) (by omega)]; rfl)
  ·rw [h2]; replace h2 := zcl h2
   refine zv4 ?_
   refine AWp_cond rfl (fun h3 => ?_) (fun h3 => ?_)
   ·(try rw [h3]); replace h3 := zcl h3
    refine zsr ?_
    refine zt rfl (zc rfl (wbO 92 (.inl rfl) (by simp only [List.length_cons]; omega))) ?_
    refine zon ?_
    refine AWp_regL ?_
    refine zg1 ?_
    refine zt rfl (zc rfl (wbO c (.inl rfl) (by simp only [List.length_append, List.length_cons, List.length_nil]; omega))) ?_
    refine zon ?_
    refine AWp_regL ?_
    refine zv2 ?_
    refine ⟨i + 1, σ.length + 2, by omega, by omega, by simp [bldr], ⟨rfl, rfl, rfl, rfl, rfl, trivial⟩, closed_bldr hcl (by simp [AV.lt]), ?_, ?_⟩
    ·simp [ltE, AV.lt]
    ·rw [take_bldr, hc]; first | (rw [qch1 (by omega)]; simp) | (rw [qch2 (by omega) (by omega)]; simp) | (rw [qch3 (by omega) (by omega)]; rfl)
   ·(try rw [h3]); replace h3 := zcl h3
    refine zw3 ?_
    refine AWp_cond rfl (fun h4 => ?_) (fun h4 => ?_)
    ·(try rw [h4]); replace h4 := zcl h4
     refine zsr ?_
     refine zt rfl (zc rfl (wsO ⟨#[92, 117, 48, 48]⟩ (.inl rfl) (by rw [show (ByteArray.mk #[92, 117, 48, 48]).size = 4 from rfl]; simp only [List.length_cons]; omega))) ?_
     refine zon ?_
     refine zu1 ?_
     refine zt rfl (op_shr rfl rfl rfl (by decide) (shr4 c)) ?_
     refine zt rfl (op_index_strB rfl Tryd.underlying9 rfl rfl (by omega) (by rw [show (ByteArray.mk #[48, 49, 50, 51, 52, 53, 54, 55, 56, 57, 97, 98, 99, 100, 101, 102]).size = 16 from rfl]; have := c.toNat_lt; omega)) ?_
     refine zt rfl (zc rfl (wbO (hxd (c.toNat / 16)) (.inl rfl) (by simp only [List.length_append, List.length_cons, List.length_nil]; omega))) ?_
     refine zon ?_
     refine AWp_regL ?_
     refine zg1 ?_
     refine zt rfl (op_and rfl rfl rfl (and15 c)) ?_
     refine zt rfl (op_index_strB rfl Tryd.underlying9 rfl rfl (by omega) (by rw [show (ByteArray.mk #[48, 49, 50, 51, 52, 53, 54, 55, 56, 57, 97, 98, 99, 100, 101, 102]).size = 16 from rfl]; have := c.toNat_lt; omega)) ?_
     refine zt rfl (zc rfl (wbO (hxd (c.toNat % 16)) (.inl rfl) (by simp only [List.length_append, List.length_cons, List.length_nil]; omega))) ?_
     refine zon ?_
     refine AWp_regL ?_
     refine zv2 ?_
     refine ⟨i + 1, σ.length + 2, by omega, by omega, by simp [bldr], ⟨rfl, rfl, rfl, rfl, rfl, trivial⟩, closed_bldr hcl (by simp [AV.lt]), ?_, ?_⟩
     ·simp [ltE, AV.lt]
     ·rw [take_bldr, hc]; first | (rw [qch1 (by omega)]; simp) | (rw [qch2 (by omega) (by omega)]; simp) | (rw [qch3 (by omega) (by omega)]; rfl)
    ·(try rw [h4]); replace h4 := zcl h4
     refine AWp_regL ?_
     refine zg1 ?_
     refine zt rfl (zc rfl (wbO c (.inl rfl) (by simp only [List.length_cons]; omega))) ?_
     refine zon ?_
     refine AWp_regL ?_
     refine zv2 ?_
     refine ⟨i + 1, σ.length + 2, by omega, by omega, by simp [bldr], ⟨rfl, rfl, rfl, rfl, rfl, trivial⟩, closed_bldr hcl (by simp [AV.lt]), ?_, ?_⟩
     ·simp [ltE, AV.lt]
     ·rw [take_bldr, hc]; first | (rw [qch1 (by omega)]; simp) | (rw [qch2 (by omega) (by omega)]; simp) | (rw [qch3 (by omega) (by omega)]; rfl)
 ·(try rw [h1]); replace h1 := zcl h1
  refine AWp_exit ?_
  refine zsr ?_
  refine zt rfl (zc rfl (wbO 34 (.inl rfl) (by simp only [List.length_cons]; omega))) ?_
  refine zon ?_
  refine zsr ?_
  refine zt rfl (zc rfl (strO (.inl rfl) (by simp only [List.length_append, List.length_cons, List.length_nil]; omega))) ?_
  refine zv1 ?_
  refine zrt ?_
  refine ResQ_1 rfl hcl trivial (Ret_of ?_)
  rw [show i = l.length by omega, List.take_length]; rfl
end Lg
namespace Lg
open Go
variable [GLay] {σ : List AO}
theorem bsc1 (c : UInt8) : srcv σ (.sl true 1 [[.int .u8 (c.toNat : Int)]]) = some (bcells ⟨#[c]⟩, 1) := rfl
theorem bsc2 (c d : UInt8) : srcv σ (.sl true 1 [[.int .u8 (c.toNat : Int)], [.int .u8 (d.toNat : Int)]]) = some (bcells ⟨#[c, d]⟩, 2) := rfl
theorem bq1 (x : BL) (c : UInt8) : ba x ++ (⟨#[92]⟩ : ByteArray) ++ (⟨#[c]⟩ : ByteArray) = ba (x ++ [92, c]) := by
  rw [show (⟨#[92]⟩ : ByteArray) = ba [92] from rfl, show (⟨#[c]⟩ : ByteArray) = ba [c] from rfl, ba_app, ba_app]; simp
theorem bq2 (x : BL) (c d : UInt8) : ba x ++ (⟨#[92, 117, 48, 48]⟩ : ByteArray) ++ (⟨#[c, d]⟩ : ByteArray) = ba (x ++ [92, 117, 48, 48, c, d]) := by
  rw [show (⟨#[92, 117, 48, 48]⟩ : ByteArray) = ba [92, 117, 48, 48] from rfl, show (⟨#[c, d]⟩ : ByteArray) = ba [c, d] from rfl, ba_app, ba_app]; simp
theorem bq3 (x : BL) (c : UInt8) : ba x ++ (⟨#[c]⟩ : ByteArray) = ba (x ++ [c]) := by
  rw [show (⟨#[c]⟩ : ByteArray) = ba [c] from rfl, ba_app]
end Lg
set_option maxRecDepth 20000
set_option maxHeartbeats 4000000
namespace Lg
open Go Go.Proofs Go.RowKit
variable [GLay] 
theorem rquote_c (l : BL) (σ : List AO) (hl : l.length ≤ 1000000) : ACalls Tryd.prog 40 [.str (ba l)] σ (Ret (.str (ba (quoteL l))) σ) := by
 refine ACalls_body Tryd.func40 rfl Tryd.ntmps40 (res1 Tryd.results40) (Nat.le_of_ble_eq_true rfl) (fun hcl hal => ?_)
 have hbs : (ba l).size = l.length := ba_size l
 have h1s : ∀ x, (ByteArray.mk #[x]).size = 1 := fun x => rfl
 have h2s : ∀ x y, (ByteArray.mk #[x, y]).size = 2 := fun x y => rfl
 have h4s : (ByteArray.mk #[92, 117, 48, 48]).size = 4 := rfl
 have h92 := h1s 92
 have h34 := h1s 34
 refine zw1 ?_
 refine zw1 ?_
 refine AWp_seq ?_
 refine zw1 ?_
 refine AWp_block ?_
 -- loop 0 LIVE 0:param 2:assign 3:assign 4:assign
 refine AWp_loop (ι := Nat) (fun i => i ≤ l.length) (fun i => ⟨[], [(0, .str (ba l)), (3, .str (ba (34 :: qbody (l.take i)))), (4, .int .i64 (i : Int))]⟩) (fun i => σ) (fun i => l.length - i) (0) (Nat.zero_le _) ?_ rfl (fun i hi => ?_)
 ·exact ⟨rfl, rfl, rfl, rfl, trivial⟩
 have hqt := qbody_len (l.take i)
 rw [List.length_take] at hqt
 have hbq : (ba (34 :: qbody (l.take i))).size = (qbody (l.take i)).length + 1 := by rw [ba_size]; rfl
 refine AWp_seq ?_
 refine zw4 ?_
 refine AWp_cond rfl (fun h1 => ?_) (fun h1 => ?_)
 ·(try rw [h1]); replace h1 := zcl h1
  refine AWp_skip ?_
  refine AWp_seq ?_
  refine AWp_block ?_
  refine zu3 ?_
  simp only [Int.toNat_natCast]
  rw [show bat (ba l) i = l.getD i 0 from bat_ba l i]
  have hc := qbody_take (l := l) (i := i) (by omega)
  generalize l.getD i 0 = c at hc ⊢
  refine zv1 ?_
  refine zu3 ?_
  refine zsp 18 rfl (fun h2 => ?_) fun h2 => ?_
  ·rw [h2]; replace h2 := zcl h2
   refine zv3 ?_
   refine AWp_condT rfl ?_
   refine AWp_regL ?_
   refine zg2 ?_
   have h1c := h1s c
   have hsa := ByteArray.size_append (a := ba (34 :: qbody (l.take i))) (b := (⟨#[92]⟩ : ByteArray))
   refine zg1 ?_
   refine zt rfl (op_buildSlice [[_]] rfl Tryd.underlying56 Tryd.sizeOf5 Tryd.zeroValue5 rfl (by decide) (by decide) rfl rfl rfl rfl rfl) ?_
   refine zt rfl (op_bytesStr (b := _) (m := 1) rfl Tryd.underlying56 Tryd.underlying5 Tryd.underlying9 (bsc1 c) rfl rfl) ?_
   refine zv2 ?_
   refine AWp_regL ?_
   refine zv3 ?_
   refine ⟨i + 1, σ.length, by omega, by omega, Nat.le_refl _, ⟨rfl, rfl, ?_, rfl, trivial⟩, hcl, ?_, List.take_length⟩
   ·rw [hc]; refine congrArg AV.str (?_ : _ = _); first | (rw [qch1 (by omega)]; exact bq1 _ _) | (rw [qch2 (by omega) (by omega)]; exact bq2 _ _ _) | (rw [qch3 (by omega) (by omega)]; exact bq3 _ _)
   ·simp [ltE, AV.lt]
  ·rw [h2]; replace h2 := zcl h2
   refine zv3 ?_
   refine AWp_cond rfl (fun h3 => ?_) (fun h3 => ?_)
   ·(try rw [h3]); replace h3 := zcl h3
    refine AWp_regL ?_
    refine zg2 ?_
    have h1c := h1s c
    have hsa := ByteArray.size_append (a := ba (34 :: qbody (l.take i))) (b := (⟨#[92]⟩ : ByteArray))
    refine zg1 ?_
    refine zt rfl (op_buildSlice [[_]] rfl Tryd.underlying56 Tryd.sizeOf5 Tryd.zeroValue5 rfl (by decide) (by decide) rfl rfl rfl rfl rfl) ?_
    refine zt rfl (op_bytesStr (b := _) (m := 1) rfl Tryd.underlying56 Tryd.underlying5 Tryd.underlying9 (bsc1 c) rfl rfl) ?_
    refine zv2 ?_
    refine AWp_regL ?_
    refine zv3 ?_
    refine ⟨i + 1, σ.length, by omega, by omega, Nat.le_refl _, ⟨rfl, rfl, ?_, rfl, trivial⟩, hcl, ?_, List.take_length⟩
    ·rw [hc]; refine congrArg AV.str (?_ : _ = _); first | (rw [qch1 (by omega)]; exact bq1 _ _) | (rw [qch2 (by omega) (by omega)]; exact bq2 _ _ _) | (rw [qch3 (by omega) (by omega)]; exact bq3 _ _)
    ·simp [ltE, AV.lt]
   ·(try rw [h3]); replace h3 := zcl h3
    refine zw2 ?_
    refine AWp_cond rfl (fun h4 => ?_) (fun h4 => ?_)
    ·(try rw [h4]); replace h4 := zcl h4
     refine zw1 ?_
     refine AWp_drawL #[0, 1, 0, 0, 8, 24, 60, 0, 0, 256, 768, 1920, 4092, 8188, 16383, 32767] Tryd.mixed (by decide +kernel) (by decide +kernel) ?_
     refine zd2 ?_
     have hsa := ByteArray.size_append (a := ba (34 :: qbody (l.take i))) (b := (⟨#[92, 117, 48, 48]⟩ : ByteArray))
     have h2c := h2s (hxd (c.toNat / 16)) (hxd (c.toNat % 16))
     refine zd3 ?_
     refine yA rfl rfl (fun _ => op_quo64 rfl rfl rfl (by omega) (by omega) (by omega)) ?_
     refine yA rfl rfl (fun _ => op_index_strB rfl Tryd.underlying9 rfl rfl (by omega) (by rw [show (ByteArray.mk #[48, 49, 50, 51, 52, 53, 54, 55, 56, 57, 97, 98, 99, 100, 101, 102]).size = 16 from rfl]; have := c.toNat_lt; omega)) ?_
     rw [show ((c.toNat : Int) / 16).toNat = c.toNat / 16 by omega]
     refine zd3 ?_
     refine yA rfl rfl (fun _ => op_rem64 rfl rfl rfl (by omega) (by omega)) ?_
     refine yA rfl rfl (fun _ => op_index_strB rfl Tryd.underlying9 rfl rfl (by omega) (by rw [show (ByteArray.mk #[48, 49, 50, 51, 52, 53, 54, 55, 56, 57, 97, 98, 99, 100, 101, 102]).size = 16 from rfl]; have := c.toNat_lt; omega)) ?_
     rw [show ((c.toNat : Int) % 16).toNat = c.toNat % 16 by omega]
     refine yA rfl rfl (fun _ => op_buildSlice [[_], [_]] rfl Tryd.underlying56 Tryd.sizeOf5 Tryd.zeroValue5 rfl (by decide) (by decide) rfl rfl rfl rfl rfl) ?_
     refine yA rfl rfl (fun _ => op_bytesStr (b := _) (m := 2) rfl Tryd.underlying56 Tryd.underlying5 Tryd.underlying9 (bsc2 (hxd (c.toNat / 16)) (hxd (c.toNat % 16))) rfl rfl) ?_
     refine zd2 ?_
     refine RP.nil rfl ?_
     refine AWp_regL ?_
     refine zv3 ?_
     refine ⟨i + 1, σ.length, by omega, by omega, Nat.le_refl _, ⟨rfl, rfl, ?_, rfl, trivial⟩, hcl, ?_, List.take_length⟩
     ·rw [hc]; refine congrArg AV.str (?_ : _ = _); first | (rw [qch1 (by omega)]; exact bq1 _ _) | (rw [qch2 (by omega) (by omega)]; exact bq2 _ _ _) | (rw [qch3 (by omega) (by omega)]; exact bq3 _ _)
     ·simp [ltE, AV.lt]
    ·(try rw [h4]); replace h4 := zcl h4
     refine AWp_regL ?_
     refine zg2 ?_
     have h1c := h1s c
     refine zt rfl (op_buildSlice [[_]] rfl Tryd.underlying56 Tryd.sizeOf5 Tryd.zeroValue5 rfl (by decide) (by decide) rfl rfl rfl rfl rfl) ?_
     refine zt rfl (op_bytesStr (b := _) (m := 1) rfl Tryd.underlying56 Tryd.underlying5 Tryd.underlying9 (bsc1 c) rfl rfl) ?_
     refine zv2 ?_
     refine AWp_regL ?_
     refine zv3 ?_
     refine ⟨i + 1, σ.length, by omega, by omega, Nat.le_refl _, ⟨rfl, rfl, ?_, rfl, trivial⟩, hcl, ?_, List.take_length⟩
     ·rw [hc]; refine congrArg AV.str (?_ : _ = _); first | (rw [qch1 (by omega)]; exact bq1 _ _) | (rw [qch2 (by omega) (by omega)]; exact bq2 _ _ _) | (rw [qch3 (by omega) (by omega)]; exact bq3 _ _)
     ·simp [ltE, AV.lt]
 ·(try rw [h1]); replace h1 := zcl h1
  refine AWp_exit ?_
  refine zw3 ?_
  refine zrt ?_
  refine ResQ_10 rfl hcl trivial (Ret_of ?_)
  rw [show i = l.length by omega, List.take_length]; exact congrArg AV.str (bq3 _ 34)
end Lg
namespace Lg
open Go Go.RowKit
variable [GLay]
variable {P : Program} {N : Nat} {σ l : List AO} {e : Env} {Q : QA} {o : Oper}
/-- A pointer in an interface, to a box of the call's own, becomes one to what is never written again. -/
theorem AWp_freezeI {c : Code} (t p off : Nat) (T : TypeId) {cs : List AV} (hl : lookO e.l t = some (.iface T (.ptr p off))) (hσ : σ[p]? = some (.box cs)) (k : AWp P N c (e.put (some t) (.iface T (.pp (cs.drop off)))) (σ.set p .gone) Q) (ht : t < N) : AWp P N c e σ Q := fun s0 s a hs g x he => by
  subst hs
  have hv := he.tmps t
  rw [show e.look t = .iface T (.ptr p off) from lookO_eq hl] at hv
  obtain ⟨v, hv0, hv1⟩ := hv.inv_iface
  obtain ⟨s', e1, e2, g', x', hv'⟩ := freezeBox_V g hσ hv1
  have hv2 : V s' (.iface T (.pp (cs.drop off))) (a.eval (.tmp t)) := by rw [hv0]; exact .iface _ _ _ hv'
  have := k s0 s' a e1 g' (x.trans x') (by
    have h1 := (he.mono g x').put (some t) hv2 (fun d hd => by cases hd; exact ht)
    have h2 : a.put (some t) (a.eval (.tmp t)) = a := put_self (by rw [he.size]; exact ht)
    rwa [h2] at h1)
  rwa [e2] at this
section asserts
variable {T U U' E : TypeId} {x : Operand} {v : AV}
theorem op_assertT (ho : o.op = .typeAssert x T U true) (hu : P.underlying U = some (.pointer E)) (hx : opO e x = some (.iface U v)) : AOp P σ e o (.tup [v, .bool true]) σ :=
  .of_run fun s a hs g hv => by
    have h1 := hv x (by simp [ho, Op.operands])
    rw [opO_eq hx] at h1
    obtain ⟨w, h2, h3⟩ := h1.inv_iface
    refine ⟨.tuple #[w, .bool true], ?_, .tup [v, .bool true] [w, .bool true] rfl (fun i c z e1 e2 => by
      match i, e1, e2 with
      | 0, e1, e2 => cases e1; cases e2; exact h3
      | 1, e1, e2 => cases e1; cases e2; exact .bool _)⟩
    simp [execOp, ho, h2, Instr.typeAssert, run_underlying hu]
theorem op_assertF (ho : o.op = .typeAssert x T U true) (hu : P.underlying U = some (.pointer E)) (hz : ∀ w, (zeroValue U).run P w = Result.ok (.pointer none) w) (hx : opO e x = some (.iface U' v)) (hne : U' ≠ U) : AOp P σ e o (.tup [.nilp, .bool false]) σ :=
  .of_run fun s a hs g hv => by
    have h1 := hv x (by simp [ho, Op.operands])
    rw [opO_eq hx] at h1
    obtain ⟨w, h2, h3⟩ := h1.inv_iface
    refine ⟨.tuple #[.pointer none, .bool false], ?_, .tup [.nilp, .bool false] [.pointer none, .bool false] rfl (fun i c z e1 e2 => by
      match i, e1, e2 with
      | 0, e1, e2 => cases e1; cases e2; exact .nilp
      | 1, e1, e2 => cases e1; cases e2; exact .bool _)⟩
    simp [execOp, ho, h2, Instr.typeAssert, run_underlying hu, hne, hz]
end asserts
end Lg
set_option maxRecDepth 20000
set_option maxHeartbeats 4000000
namespace Lg
open Go Go.Proofs Go.RowKit
variable [GLay] 
theorem fail_c (at_ code : Int) (σ : List AO) : ACalls Tryd.prog 34 [.int .i64 at_, .int .i64 code] σ (Ret (.iface 85 (.pp [.int .i64 at_, .int .i64 code])) σ) := by
 refine ACalls_body Tryd.func34 rfl Tryd.ntmps34 (res1 Tryd.results34) (Nat.le_of_ble_eq_true rfl) (fun hcl hal => ?_)
 refine zw1 ?_
 refine zw6 ?_
 refine AWp_freezeI (cs := [.int .i64 at_, .int .i64 code]) 4 (σ.length + 0) 0 85 rfl (by rw [get_own]; rfl) ?_ (by decide)
 rw [set_own]
 refine zrt ?_
 exact ResQ_1 rfl hcl (by simp [AV.lt, AV.ltL]) (Ret_of rfl)

theorem spot_0 (σ : List AO) : ACalls Tryd.prog 51 [.nili] σ (Ret (.tup [.int .i64 0, .int .i64 0]) σ) := by
 refine ACalls_body Tryd.func51 rfl Tryd.ntmps51 (res2 Tryd.results51) (Nat.le_of_ble_eq_true rfl) (fun hcl hal => ?_)
 refine zw2 ?_
 refine AWp_seq ?_
 refine zw2 ?_
 refine AWp_cond rfl (fun h1 => ?_) (fun h1 => ?_)
 ·(try rw [h1]); replace h1 := zcl h1
  refine zw2 ?_
  refine zrt ?_
  exact ResQ_20 rfl rfl hcl (by simp [AV.lt, AV.ltL]) (Ret_of rfl)
 ·(try rw [h1]); replace h1 := zcl h1
  cases h1

theorem spot_s (at_ code : Int) (σ : List AO) : ACalls Tryd.prog 51 [.iface 85 (.pp [.int .i64 at_, .int .i64 code])] σ (Ret (.tup [.int .i64 code, .int .i64 at_]) σ) := by
 refine ACalls_body Tryd.func51 rfl Tryd.ntmps51 (res2 Tryd.results51) (Nat.le_of_ble_eq_true rfl) (fun hcl hal => ?_)
 refine zw2 ?_
 refine AWp_seq ?_
 refine zw2 ?_
 refine AWp_cond rfl (fun h1 => ?_) (fun h1 => ?_)
 ·(try rw [h1]); replace h1 := zcl h1
  cases h1
 ·(try rw [h1]); replace h1 := zcl h1
  refine AWp_skip ?_
  refine zu1 ?_
  refine zt rfl (op_assertT rfl Tryd.underlying85 rfl) ?_
  refine zv5 ?_
  refine AWp_seq ?_
  refine zw5 ?_
  refine AWp_condT rfl ?_
  refine AWp_seq ?_
  refine AWp_drawL #[0, 1, 3, 7, 0, 16, 48, 112, 15, 511] Tryd.mixed (by decide +kernel) (by decide +kernel) ?_
  refine zd3 ?_
  refine zp1 ?_
  refine zd3 ?_
  refine zp1 ?_
  refine zd2 ?_
  refine RP.nil rfl ?_
  refine zrt ?_
  exact ResQ_20 rfl rfl hcl (by simp [AV.lt, AV.ltL]) (Ret_of rfl)
end Lg
namespace Lg
open Go Go.RowKit
variable [GLay]
variable {P : Program} {N : Nat} {σ l : List AO} {e : Env} {Q : QA} {o : Oper}
section
variable {T T' : TypeId} {x y : Operand} {k : IntKind} {a b r : Int}
theorem op_addW (ho : o.op = .binOp .add T x y T') (hx : opv e x = .int k a) (hy : opv e y = .int k b) (hr : k.wrap (a + b) = r) : AOp P σ e o (.int k r) σ := by
  have := op_add (P := P) (σ := σ) ho hx hy; rwa [hr] at this
theorem op_subW (ho : o.op = .binOp .sub T x y T') (hx : opv e x = .int k a) (hy : opv e y = .int k b) (hr : k.wrap (a - b) = r) : AOp P σ e o (.int k r) σ := by
  have := op_sub (P := P) (σ := σ) ho hx hy; rwa [hr] at this
theorem op_mulW (ho : o.op = .binOp .mul T x y T') (hx : opv e x = .int k a) (hy : opv e y = .int k b) (hr : k.wrap (a * b) = r) : AOp P σ e o (.int k r) σ := by
  have := op_mul (P := P) (σ := σ) ho hx hy; rwa [hr] at this
theorem op_or (ho : o.op = .binOp .or T x y T') (hx : opv e x = .int k a) (hy : opv e y = .int k b) (hr : k.wrap ((BitVec.ofInt k.bits a ||| BitVec.ofInt k.bits b).toNat : Int) = r) : AOp P σ e o (.int k r) σ :=
  op_bin ho hx hy fun s cx cy _ _ h1 h2 => by
    rw [h1.inv_int, h2.inv_int]
    refine ⟨.int k r, ?_, .int _ _, by simp [eqGuard]⟩
    rw [← hr]
    simp [binOp, Op.intBits]
end
theorem i32_in {n : Int} (h0 : -2147483648 ≤ n) (h1 : n ≤ 2147483647) : IntKind.i32.wrap n = n := by
  rw [Go.IntKind.wrap_i32]; omega
/-- The byte with its sixth bit. -/
def low6 (b : UInt8) : Nat := b.toNat ||| 32
theorem or32f : ∀ b : Fin 256, IntKind.u8.wrap ((BitVec.ofInt IntKind.u8.bits (b.val : Int) ||| BitVec.ofInt IntKind.u8.bits 32).toNat : Int) = ((b.val ||| 32 : Nat) : Int) := by decide +kernel
theorem or32 (b : UInt8) : IntKind.u8.wrap ((BitVec.ofInt IntKind.u8.bits (b.toNat : Int) ||| BitVec.ofInt IntKind.u8.bits 32).toNat : Int) = ((low6 b : Nat) : Int) := or32f ⟨b.toNat, b.toNat_lt⟩
theorem low6_ltf : ∀ b : Fin 256, b.val ||| 32 < 256 := by decide +kernel
theorem low6_lt (b : UInt8) : low6 b < 256 := low6_ltf ⟨b.toNat, b.toNat_lt⟩
end Lg
namespace Lg
open Go
/-- A digit of 16, as the program sees it. -/
theorem hexd_low : ∀ b : Fin 256, hexd b.val = if 48 ≤ b.val ∧ b.val ≤ 57 then (b.val : Int) - 48 else if 97 ≤ (b.val ||| 32) ∧ (b.val ||| 32) ≤ 102 then ((b.val ||| 32 : Nat) : Int) - 87 else -1 := by decide +kernel
theorem hexd_b (b : UInt8) : hexd b.toNat = if 48 ≤ b.toNat ∧ b.toNat ≤ 57 then (b.toNat : Int) - 48 else if 97 ≤ low6 b ∧ low6 b ≤ 102 then (low6 b : Int) - 87 else -1 := hexd_low ⟨b.toNat, b.toNat_lt⟩
def hpow (j : Nat) : Int := ([1, 16, 256, 4096, 65536] : List Int).getD j 0
theorem hpow_step {j : Nat} (h : j < 4) {v d : Int} (h0 : 0 ≤ v) (h1 : v < hpow j) (hd : 0 ≤ d ∧ d ≤ 15) : v < 4096 ∧ 16 * v + d < hpow (j + 1) := by
  have : j = 0 ∨ j = 1 ∨ j = 2 ∨ j = 3 := by omega
  rcases this with rfl | rfl | rfl | rfl <;> simp [hpow] at * <;> omega
theorem hexF_go {s : ByteArray} {i e : Nat} {v : Int} (h : i < e) (hs : i < s.size) (hd : 0 ≤ hexd (bat s i).toNat) : hexF s i e v = hexF s (i + 1) e (16 * v + hexd (bat s i).toNat) := by
  rw [hexF, if_pos h, if_neg (by omega), if_neg (by omega)]
theorem hexF_stop {s : ByteArray} {i e : Nat} {v : Int} (h : i < e) (hs : s.size ≤ i ∨ hexd (bat s i).toNat < 0) : hexF s i e v = (0, (i : Int)) := by
  rw [hexF, if_pos h]
  by_cases h1 : s.size ≤ i
  · rw [if_pos h1]
  · rw [if_neg h1, if_pos (by omega)]
theorem hexF_done {s : ByteArray} {e : Nat} {v : Int} : hexF s e e v = (v, -1) := by rw [hexF, if_neg (by omega)]
end Lg
set_option maxRecDepth 20000
set_option maxHeartbeats 4000000
namespace Lg
open Go Go.Proofs Go.RowKit
variable [GLay] 
theorem shex_c (s : ByteArray) (a p : Nat) (cs : List AV) (σ : List AO) (hσ : σ[p]? = some (.box cs)) (hk : cs[0]? = some (.str s)) (hs : s.size ≤ 1000000) (ha : a ≤ 1000000) : ACalls Tryd.prog 77 [.ptr p 0, .int .i64 (a : Int)] σ (Ret (.tup [.int .i32 (rhex s a).1, .int .i64 (rhex s a).2]) σ) := by
 refine ACalls_body Tryd.func77 rfl Tryd.ntmps77 (res2 Tryd.results77) (Nat.le_of_ble_eq_true rfl) (fun hcl hal => ?_)
 refine zw2 ?_
 refine zw1 ?_
 refine AWp_seq ?_
 refine zw2 ?_
 refine AWp_block ?_
 -- loop 0 LIVE 0:param 1:param 4:assign 5:assign 6:assign 7:assign
 refine AWp_loop (ι := Nat × Int) (fun z => z.1 ≤ 4 ∧ 0 ≤ z.2 ∧ z.2 < hpow z.1 ∧ rhex s a = hexF s (a + z.1) (a + 4) z.2) (fun z => ⟨[], [(0, .ptr p 0), (1, .int .i64 (a : Int)), (4, .int .i32 0), (5, .int .i64 0), (6, .int .i32 z.2), (7, .int .i64 ((a + z.1 : Nat) : Int))]⟩) (fun z => σ) (fun z => 4 - z.1) ((0, 0)) (⟨by decide, by decide, by decide, rfl⟩) ?_ rfl (fun z hi => ?_)
 ·exact ⟨rfl, rfl, rfl, rfl, rfl, rfl, rfl, trivial⟩
 obtain ⟨j, v⟩ := z
 obtain ⟨hj, hv0, hv1, hF⟩ := hi
 simp only at hj hv0 hv1 hF ⊢
 refine AWp_seq ?_
 refine zw4 ?_
 refine AWp_cond rfl (fun h1 => ?_) (fun h1 => ?_)
 ·(try rw [h1]); replace h1 := zcl h1
  refine AWp_skip ?_
  refine AWp_seq ?_
  refine AWp_block ?_
  refine AWp_seq ?_
  refine zu4 ?_
  refine zt rfl (op_load1 rfl Tryd.isAgg9 (ldv_ptr hσ (tk1_get hk))) ?_
  refine zv2 ?_
  refine AWp_cond rfl (fun h2 => ?_) (fun h2 => ?_)
  ·(try rw [h2]); replace h2 := zcl h2
   refine zw3 ?_
   refine zrt ?_
   refine ResQ_20 rfl rfl hcl (by simp [AV.lt, AV.ltL]) (Ret_of ?_)
   rw [hF, hexF_stop (by omega) (.inl (by omega))]
  ·(try rw [h2]); replace h2 := zcl h2
   refine AWp_skip ?_
   refine zu3 ?_
   refine zt rfl (op_load1 rfl Tryd.isAgg9 (ldv_ptr hσ (tk1_get hk))) ?_
   refine zg2 ?_
   simp only [Int.toNat_natCast]
   have hhx := hexd_b (bat s (a + j))
   have hll := hexd_lt (bat s (a + j)).toNat
   have hl6 := low6_lt (bat s (a + j))
   have hcl8 := (bat s (a + j)).toNat_lt
   generalize hcb : bat s (a + j) = c at hhx hll hl6 hcl8 ⊢
   have hv4 : v < 4096 := (hpow_step (j := j) (v := v) (d := 0) (by omega) hv0 hv1 (by omega)).1
   refine zt rfl (op_or rfl rfl rfl (or32 c)) ?_
   refine zv1 ?_
   refine AWp_block ?_
   refine zu3 ?_
   refine zt rfl (op_load1 rfl Tryd.isAgg9 (ldv_ptr hσ (tk1_get hk))) ?_
   refine zg2 ?_
   simp only [Int.toNat_natCast]
   rw [hcb]
   refine zg2 ?_
   refine zsp 40 rfl (fun h3 => ?_) fun h3 => ?_
   ·rw [h3]; replace h3 := zcl h3
    refine zg3 ?_
    refine ztG rfl rfl (op_load1 rfl Tryd.isAgg9 (ldv_ptr hσ (tk1_get hk))) ?_
    refine zg2 ?_
    simp only [Int.toNat_natCast]
    rw [hcb]
    refine zv3 ?_
    refine AWp_cond rfl (fun h4 => ?_) (fun h4 => ?_)
    ·(try rw [h4]); replace h4 := zcl h4
     refine AWp_regL ?_
     refine zg1 ?_
     refine zt rfl (op_mulW rfl rfl rfl (i32_in (by omega) (by omega))) ?_
     refine zg3 ?_
     refine zt rfl (op_load1 rfl Tryd.isAgg9 (ldv_ptr hσ (tk1_get hk))) ?_
     refine zg2 ?_
     simp only [Int.toNat_natCast]
     rw [hcb]
     refine zt rfl (op_subW rfl rfl rfl (wrapu8_in (by omega) (by omega))) ?_
     refine zt rfl (op_convIn rfl (by rw [Tryd.underlying5]; rfl) Tryd.underlying21 rfl (i32_in (by omega) (by omega))) ?_
     refine zt rfl (op_addW rfl rfl rfl (i32_in (by omega) (by omega))) ?_
     refine zv1 ?_
     refine AWp_regL ?_
     refine zv3 ?_
     have hst := hpow_step (j := j) (v := v) (d := hexd c.toNat) (by omega) hv0 hv1 (by omega)
     refine ⟨(j + 1, 16 * v + hexd c.toNat), σ.length, ⟨by simp only; omega, by simp only; omega, hst.2, by rw [hF]; exact hexF_go (by omega) (by omega) (by rw [hcb]; omega) |>.trans (by rw [hcb]; rfl)⟩, by simp only; omega, Nat.le_refl _, ⟨rfl, rfl, rfl, rfl, rfl, ?_, rfl, trivial⟩, hcl, ?_, List.take_length⟩
     ·refine congrArg (AV.int .i32) (?_ : _ = _); omega
     ·simp [ltE, AV.lt, AV.ltL]; exact get_lt hσ
    ·(try rw [h4]); replace h4 := zcl h4
     refine zu3 ?_
     refine zsp 63 rfl (fun h5 => ?_) fun h5 => ?_
     ·rw [h5]; replace h5 := zcl h5
      refine zv4 ?_
      refine AWp_cond rfl (fun h6 => ?_) (fun h6 => ?_)
      ·(try rw [h6]); replace h6 := zcl h6
       refine AWp_regL ?_
       refine zg1 ?_
       refine zt rfl (op_mulW rfl rfl rfl (i32_in (by omega) (by omega))) ?_
       refine zg1 ?_
       refine zt rfl (op_subW rfl rfl rfl (wrapu8_in (by omega) (by omega))) ?_
       refine zt rfl (op_convIn rfl (by rw [Tryd.underlying5]; rfl) Tryd.underlying21 rfl (i32_in (by omega) (by omega))) ?_
       refine zt rfl (op_addW rfl rfl rfl (i32_in (by omega) (by omega))) ?_
       refine zt rfl (op_addW rfl rfl rfl (i32_in (by omega) (by omega))) ?_
       refine zv1 ?_
       refine AWp_regL ?_
       refine zv3 ?_
       have hst := hpow_step (j := j) (v := v) (d := hexd c.toNat) (by omega) hv0 hv1 (by omega)
       refine ⟨(j + 1, 16 * v + hexd c.toNat), σ.length, ⟨by simp only; omega, by simp only; omega, hst.2, by rw [hF]; exact hexF_go (by omega) (by omega) (by rw [hcb]; omega) |>.trans (by rw [hcb]; rfl)⟩, by simp only; omega, Nat.le_refl _, ⟨rfl, rfl, rfl, rfl, rfl, ?_, rfl, trivial⟩, hcl, ?_, List.take_length⟩
       ·refine congrArg (AV.int .i32) (?_ : _ = _); omega
       ·simp [ltE, AV.lt, AV.ltL]; exact get_lt hσ
      ·(try rw [h6]); replace h6 := zcl h6
       refine zw3 ?_
       refine zrt ?_
       refine ResQ_20 rfl rfl hcl (by simp [AV.lt, AV.ltL]) (Ret_of ?_)
       first | (rw [hF, show a + j = a + 4 by omega, hexF_done]; done) | (rw [hF, hexF_stop (by omega) (.inr (by rw [hcb]; omega))])
     ·rw [h5]; replace h5 := zcl h5
      refine zv4 ?_
      refine AWp_condF rfl ?_
      refine zw3 ?_
      refine zrt ?_
      refine ResQ_20 rfl rfl hcl (by simp [AV.lt, AV.ltL]) (Ret_of ?_)
      first | (rw [hF, show a + j = a + 4 by omega, hexF_done]; done) | (rw [hF, hexF_stop (by omega) (.inr (by rw [hcb]; omega))])
   ·rw [h3]; replace h3 := zcl h3
    refine zv9 ?_
    refine AWp_condF rfl ?_
    refine zu3 ?_
    refine zsp 63 rfl (fun h7 => ?_) fun h7 => ?_
    ·rw [h7]; replace h7 := zcl h7
     refine zv4 ?_
     refine AWp_cond rfl (fun h8 => ?_) (fun h8 => ?_)
     ·(try rw [h8]); replace h8 := zcl h8
      refine AWp_regL ?_
      refine zg1 ?_
      refine zt rfl (op_mulW rfl rfl rfl (i32_in (by omega) (by omega))) ?_
      refine zg1 ?_
      refine zt rfl (op_subW rfl rfl rfl (wrapu8_in (by omega) (by omega))) ?_
      refine zt rfl (op_convIn rfl (by rw [Tryd.underlying5]; rfl) Tryd.underlying21 rfl (i32_in (by omega) (by omega))) ?_
      refine zt rfl (op_addW rfl rfl rfl (i32_in (by omega) (by omega))) ?_
      refine zt rfl (op_addW rfl rfl rfl (i32_in (by omega) (by omega))) ?_
      refine zv1 ?_
      refine AWp_regL ?_
      refine zv3 ?_
      have hst := hpow_step (j := j) (v := v) (d := hexd c.toNat) (by omega) hv0 hv1 (by omega)
      refine ⟨(j + 1, 16 * v + hexd c.toNat), σ.length, ⟨by simp only; omega, by simp only; omega, hst.2, by rw [hF]; exact hexF_go (by omega) (by omega) (by rw [hcb]; omega) |>.trans (by rw [hcb]; rfl)⟩, by simp only; omega, Nat.le_refl _, ⟨rfl, rfl, rfl, rfl, rfl, ?_, rfl, trivial⟩, hcl, ?_, List.take_length⟩
      ·refine congrArg (AV.int .i32) (?_ : _ = _); omega
      ·simp [ltE, AV.lt, AV.ltL]; exact get_lt hσ
     ·(try rw [h8]); replace h8 := zcl h8
      refine zw3 ?_
      refine zrt ?_
      refine ResQ_20 rfl rfl hcl (by simp [AV.lt, AV.ltL]) (Ret_of ?_)
      first | (rw [hF, show a + j = a + 4 by omega, hexF_done]; done) | (rw [hF, hexF_stop (by omega) (.inr (by rw [hcb]; omega))])
    ·rw [h7]; replace h7 := zcl h7
     refine zv4 ?_
     refine AWp_condF rfl ?_
     refine zw3 ?_
     refine zrt ?_
     refine ResQ_20 rfl rfl hcl (by simp [AV.lt, AV.ltL]) (Ret_of ?_)
     first | (rw [hF, show a + j = a + 4 by omega, hexF_done]; done) | (rw [hF, hexF_stop (by omega) (.inr (by rw [hcb]; omega))])
 ·(try rw [h1]); replace h1 := zcl h1
  refine AWp_exit ?_
  refine zw3 ?_
  refine zrt ?_
  refine ResQ_20 rfl rfl hcl (by simp [AV.lt, AV.ltL]) (Ret_of ?_)
  first | (rw [hF, show a + j = a + 4 by omega, hexF_done]; done) | (rw [hF, hexF_stop (by omega) (.inr (by rw [hcb]; omega))])
end Lg
namespace Lg
open Go Go.RowKit
variable [GLay]
variable {P : Program} {σ : List AO} {e : Env} {o : Oper}
theorem or192f : ∀ b : Fin 32, IntKind.u8.wrap ((BitVec.ofInt IntKind.u8.bits 192 ||| BitVec.ofInt IntKind.u8.bits (b.val : Int)).toNat : Int) = 192 + (b.val : Int) := by decide +kernel
theorem or224f : ∀ b : Fin 16, IntKind.u8.wrap ((BitVec.ofInt IntKind.u8.bits 224 ||| BitVec.ofInt IntKind.u8.bits (b.val : Int)).toNat : Int) = 224 + (b.val : Int) := by decide +kernel
theorem or240f : ∀ b : Fin 8, IntKind.u8.wrap ((BitVec.ofInt IntKind.u8.bits 240 ||| BitVec.ofInt IntKind.u8.bits (b.val : Int)).toNat : Int) = 240 + (b.val : Int) := by decide +kernel
theorem or128f : ∀ b : Fin 64, IntKind.u8.wrap ((BitVec.ofInt IntKind.u8.bits 128 ||| BitVec.ofInt IntKind.u8.bits (b.val : Int)).toNat : Int) = 128 + (b.val : Int) := by decide +kernel
theorem and63f : ∀ b : Fin 256, IntKind.u8.wrap ((BitVec.ofInt IntKind.u8.bits (b.val : Int) &&& BitVec.ofInt IntKind.u8.bits 63).toNat : Int) = ((b.val % 64 : Nat) : Int) := by decide +kernel
theorem or192 {n : Int} (h0 : 0 ≤ n) (h1 : n < 32) : IntKind.u8.wrap ((BitVec.ofInt IntKind.u8.bits 192 ||| BitVec.ofInt IntKind.u8.bits n).toNat : Int) = 192 + n := by
  have := or192f ⟨n.toNat, by omega⟩; rwa [show ((n.toNat : Nat) : Int) = n by omega] at this
theorem or224 {n : Int} (h0 : 0 ≤ n) (h1 : n < 16) : IntKind.u8.wrap ((BitVec.ofInt IntKind.u8.bits 224 ||| BitVec.ofInt IntKind.u8.bits n).toNat : Int) = 224 + n := by
  have := or224f ⟨n.toNat, by omega⟩; rwa [show ((n.toNat : Nat) : Int) = n by omega] at this
theorem or240 {n : Int} (h0 : 0 ≤ n) (h1 : n < 8) : IntKind.u8.wrap ((BitVec.ofInt IntKind.u8.bits 240 ||| BitVec.ofInt IntKind.u8.bits n).toNat : Int) = 240 + n := by
  have := or240f ⟨n.toNat, by omega⟩; rwa [show ((n.toNat : Nat) : Int) = n by omega] at this
theorem or128 {n : Int} (h0 : 0 ≤ n) (h1 : n < 64) : IntKind.u8.wrap ((BitVec.ofInt IntKind.u8.bits 128 ||| BitVec.ofInt IntKind.u8.bits n).toNat : Int) = 128 + n := by
  have := or128f ⟨n.toNat, by omega⟩; rwa [show ((n.toNat : Nat) : Int) = n by omega] at this
theorem and63 {n r : Int} (h0 : 0 ≤ n) (h1 : n < 256) (hr : n % 64 = r) : IntKind.u8.wrap ((BitVec.ofInt IntKind.u8.bits n &&& BitVec.ofInt IntKind.u8.bits 63).toNat : Int) = r := by
  have := and63f ⟨n.toNat, by omega⟩
  simp only at this
  rw [show ((n.toNat : Nat) : Int) = n by omega] at this
  rw [this]; omega
theorem op_convW {S T : TypeId} {x : Operand} {k k' : IntKind} {n r : Int} (ho : o.op = .convert S T x) (hs : (P.underlying S).isSome = true) (hd : P.underlying T = some (.int k')) (hx : opv e x = .int k n) (hr : k'.wrap n = r) : AOp P σ e o (.int k' r) σ := by
  have := op_convInt (P := P) (σ := σ) ho hs hd hx; rwa [hr] at this
theorem u8_mod {n r : Int} (h : n % 256 = r) : IntKind.u8.wrap n = r := by
  rw [Go.IntKind.wrap_u8]; exact h
theorem u32_in {n : Int} (h0 : 0 ≤ n) (h1 : n < 4294967296) : IntKind.u32.wrap n = n := by
  rw [Go.IntKind.wrap_u32]; omega
theorem sb1 {a : Int} (ha : 0 ≤ a ∧ a < 256) : srcv σ (.sl true 1 [[.int .u8 a]]) = some (bav [u8b a], 1) := by
  simp [srcv, bav, u8b_toNat ha.1 ha.2]
theorem sb2 {a b : Int} (ha : 0 ≤ a ∧ a < 256) (hb : 0 ≤ b ∧ b < 256) : srcv σ (.sl true 1 [[.int .u8 a], [.int .u8 b]]) = some (bav [u8b a, u8b b], 2) := by
  simp [srcv, bav, u8b_toNat ha.1 ha.2, u8b_toNat hb.1 hb.2]
theorem sb3 {a b c : Int} (ha : 0 ≤ a ∧ a < 256) (hb : 0 ≤ b ∧ b < 256) (hc : 0 ≤ c ∧ c < 256) : srcv σ (.sl true 1 [[.int .u8 a], [.int .u8 b], [.int .u8 c]]) = some (bav [u8b a, u8b b, u8b c], 3) := by
  simp [srcv, bav, u8b_toNat ha.1 ha.2, u8b_toNat hb.1 hb.2, u8b_toNat hc.1 hc.2]
theorem sb4 {a b c d : Int} (ha : 0 ≤ a ∧ a < 256) (hb : 0 ≤ b ∧ b < 256) (hc : 0 ≤ c ∧ c < 256) (hd : 0 ≤ d ∧ d < 256) : srcv σ (.sl true 1 [[.int .u8 a], [.int .u8 b], [.int .u8 c], [.int .u8 d]]) = some (bav [u8b a, u8b b, u8b c, u8b d], 4) := by
  simp [srcv, bav, u8b_toNat ha.1 ha.2, u8b_toNat hb.1 hb.2, u8b_toNat hc.1 hc.2, u8b_toNat hd.1 hd.2]
/-- A character's bytes. -/
def rchL (v : Int) : List UInt8 := (rchar v).data.toList
theorem rch1 {v : Int} (h : v < 128) : rchL v = [u8b v] := by unfold rchL rchar; rw [if_pos h]
theorem rch2 {v : Int} (h : ¬ v < 128) (h2 : v < 2048) : rchL v = [u8b (192 + v / 64), u8b (128 + v % 64)] := by unfold rchL rchar; rw [if_neg h, if_pos h2]
theorem rch3 {v : Int} (h : ¬ v < 128) (h2 : ¬ v < 2048) (h3 : v < 65536) : rchL v = [u8b (224 + v / 4096), u8b (128 + v / 64 % 64), u8b (128 + v % 64)] := by unfold rchL rchar; rw [if_neg h, if_neg h2, if_pos h3]
theorem rch4 {v : Int} (h : ¬ v < 128) (h2 : ¬ v < 2048) (h3 : ¬ v < 65536) : rchL v = [u8b (240 + v / 262144), u8b (128 + v / 4096 % 64), u8b (128 + v / 64 % 64), u8b (128 + v % 64)] := by unfold rchL rchar; rw [if_neg h, if_neg h2, if_neg h3]
end Lg
set_option maxRecDepth 20000
set_option maxHeartbeats 4000000
namespace Lg
open Go Go.Proofs Go.RowKit
variable [GLay] 
theorem anr_c (v : Int) {σ : List AO} {q : Nat} {l : List UInt8} (hq : σ[q]? = some (.bytes 5 l)) (h0 : 128 ≤ v) (h1 : v ≤ 1114111) (hs : ¬ (55296 ≤ v ∧ v < 57344)) (hlen : l.length ≤ 100000000) : ACalls Tryd.prog 121 [.bts q l.length, .int .i32 v] σ (Ret (.bts q (l.length + (rchL v).length)) (σ.set q (.bytes 5 (l ++ rchL v)))) := by
 refine ACalls_body Tryd.func121 rfl Tryd.ntmps121 (res1 Tryd.results121) (Nat.le_of_ble_eq_true rfl) (fun hcl hal => ?_)
 have hr4 : (rchL v).length ≤ 4 := (rchar_size v).2
 refine zw1 ?_
 refine zu1 ?_
 refine zt rfl (op_convW (r := v) rfl (by rw [Tryd.underlying21]; rfl) Tryd.underlying139 rfl (u32_in (by omega) (by omega))) ?_
 refine zv1 ?_
 refine AWp_block ?_
 refine zw3 ?_
 refine AWp_cond rfl (fun h1 => ?_) (fun h1 => ?_)
 ·(try rw [h1]); replace h1 := zcl h1
  refine zu2 ?_
  refine zt rfl (op_shr rfl rfl rfl (by decide) (show v / 2 ^ min (6 : Int).toNat IntKind.i32.bits = v / 64 from rfl)) ?_
  refine zt rfl (op_convW (r := v / 64) rfl (by rw [Tryd.underlying21]; rfl) Tryd.underlying5 rfl (u8_mod (by omega))) ?_
  refine zt rfl (op_or rfl rfl rfl (or192 (by omega) (by omega))) ?_
  refine zg1 ?_
  refine zt rfl (op_convW (r := v % 256) rfl (by rw [Tryd.underlying21]; rfl) Tryd.underlying5 rfl (u8_mod (by omega))) ?_
  refine zt rfl (op_and rfl rfl rfl (and63 (r := v % 64) (by omega) (by omega) (by omega))) ?_
  refine zt rfl (op_or rfl rfl rfl (or128 (by omega) (by omega))) ?_
  refine zt rfl (op_buildSlice [[_], [_]] rfl Tryd.underlying56 Tryd.sizeOf5 Tryd.zeroValue5 rfl (by decide) (by decide) rfl rfl rfl rfl rfl) ?_
  refine zt rfl (op_appendB (l2 := rchL v) (d := .slice 5) rfl (.inr ⟨_, rfl⟩) Tryd.underlying56 Tryd.underlying56 (i := ((Tryd.prog.info? 5).getD default)) (by kernel_rfl) rfl rfl rfl rfl hq rfl (by rw [rch2 (by omega) (by omega)]; exact sb2 ⟨by omega, by omega⟩ ⟨by omega, by omega⟩) (by rfl) (by have hb : ((Tryd.prog.info? 5).getD default).bytes = 1 := (by kernel_rfl); rw [hb, Nat.mul_one]; omega) (by omega)) ?_
  refine zv1 ?_
  refine zrt ?_
  exact ResQ_1H List.length_set rfl (closed_set hcl trivial) (get_lt hq) ⟨rfl, rfl⟩
 ·(try rw [h1]); replace h1 := zcl h1
  refine AWp_seq ?_
  refine zw3 ?_
  refine AWp_cond rfl (fun h2 => ?_) (fun h2 => ?_)
  ·(try rw [h2]); replace h2 := zcl h2
   refine AWp_skip ?_
   refine AWp_condT rfl ?_
   refine zu2 ?_
   refine zt rfl (op_shr rfl rfl rfl (by decide) (show v / 2 ^ min (12 : Int).toNat IntKind.i32.bits = v / 4096 from rfl)) ?_
   refine zt rfl (op_convW (r := v / 4096) rfl (by rw [Tryd.underlying21]; rfl) Tryd.underlying5 rfl (u8_mod (by omega))) ?_
   refine zt rfl (op_or rfl rfl rfl (or224 (by omega) (by omega))) ?_
   refine zg1 ?_
   refine zt rfl (op_shr rfl rfl rfl (by decide) (show v / 2 ^ min (6 : Int).toNat IntKind.i32.bits = v / 64 from rfl)) ?_
   refine zt rfl (op_convW (r := v / 64 % 256) rfl (by rw [Tryd.underlying21]; rfl) Tryd.underlying5 rfl (u8_mod (by omega))) ?_
   refine zt rfl (op_and rfl rfl rfl (and63 (r := v / 64 % 64) (by omega) (by omega) (by omega))) ?_
   refine zt rfl (op_or rfl rfl rfl (or128 (by omega) (by omega))) ?_
   refine zg1 ?_
   refine zt rfl (op_convW (r := v % 256) rfl (by rw [Tryd.underlying21]; rfl) Tryd.underlying5 rfl (u8_mod (by omega))) ?_
   refine zt rfl (op_and rfl rfl rfl (and63 (r := v % 64) (by omega) (by omega) (by omega))) ?_
   refine zt rfl (op_or rfl rfl rfl (or128 (by omega) (by omega))) ?_
   refine zt rfl (op_buildSlice [[_], [_], [_]] rfl Tryd.underlying56 Tryd.sizeOf5 Tryd.zeroValue5 rfl (by decide) (by decide) rfl rfl rfl rfl rfl) ?_
   refine zt rfl (op_appendB (l2 := rchL v) (d := .slice 5) rfl (.inr ⟨_, rfl⟩) Tryd.underlying56 Tryd.underlying56 (i := ((Tryd.prog.info? 5).getD default)) (by kernel_rfl) rfl rfl rfl rfl hq rfl (by rw [rch3 (by omega) (by omega) (by omega)]; exact sb3 ⟨by omega, by omega⟩ ⟨by omega, by omega⟩ ⟨by omega, by omega⟩) (by rfl) (by have hb : ((Tryd.prog.info? 5).getD default).bytes = 1 := (by kernel_rfl); rw [hb, Nat.mul_one]; omega) (by omega)) ?_
   refine zv1 ?_
   refine zrt ?_
   exact ResQ_1H List.length_set rfl (closed_set hcl trivial) (get_lt hq) ⟨rfl, rfl⟩
  ·(try rw [h2]); replace h2 := zcl h2
   refine AWp_regL ?_
   refine zg3 ?_
   refine zsp 30 rfl (fun h3 => ?_) fun h3 => ?_
   ·rw [h3]; replace h3 := zcl h3
    refine zv4 ?_
    refine AWp_cond rfl (fun h4 => ?_) (fun h4 => ?_)
    ·(try rw [h4]); replace h4 := zcl h4
     refine zu2 ?_
     refine zt rfl (op_shr rfl rfl rfl (by decide) (show v / 2 ^ min (12 : Int).toNat IntKind.i32.bits = v / 4096 from rfl)) ?_
     refine zt rfl (op_convW (r := v / 4096) rfl (by rw [Tryd.underlying21]; rfl) Tryd.underlying5 rfl (u8_mod (by omega))) ?_
     refine zt rfl (op_or rfl rfl rfl (or224 (by omega) (by omega))) ?_
     refine zg1 ?_
     refine zt rfl (op_shr rfl rfl rfl (by decide) (show v / 2 ^ min (6 : Int).toNat IntKind.i32.bits = v / 64 from rfl)) ?_
     refine zt rfl (op_convW (r := v / 64 % 256) rfl (by rw [Tryd.underlying21]; rfl) Tryd.underlying5 rfl (u8_mod (by omega))) ?_
     refine zt rfl (op_and rfl rfl rfl (and63 (r := v / 64 % 64) (by omega) (by omega) (by omega))) ?_
     refine zt rfl (op_or rfl rfl rfl (or128 (by omega) (by omega))) ?_
     refine zg1 ?_
     refine zt rfl (op_convW (r := v % 256) rfl (by rw [Tryd.underlying21]; rfl) Tryd.underlying5 rfl (u8_mod (by omega))) ?_
     refine zt rfl (op_and rfl rfl rfl (and63 (r := v % 64) (by omega) (by omega) (by omega))) ?_
     refine zt rfl (op_or rfl rfl rfl (or128 (by omega) (by omega))) ?_
     refine zt rfl (op_buildSlice [[_], [_], [_]] rfl Tryd.underlying56 Tryd.sizeOf5 Tryd.zeroValue5 rfl (by decide) (by decide) rfl rfl rfl rfl rfl) ?_
     refine zt rfl (op_appendB (l2 := rchL v) (d := .slice 5) rfl (.inr ⟨_, rfl⟩) Tryd.underlying56 Tryd.underlying56 (i := ((Tryd.prog.info? 5).getD default)) (by kernel_rfl) rfl rfl rfl rfl hq rfl (by rw [rch3 (by omega) (by omega) (by omega)]; exact sb3 ⟨by omega, by omega⟩ ⟨by omega, by omega⟩ ⟨by omega, by omega⟩) (by rfl) (by have hb : ((Tryd.prog.info? 5).getD default).bytes = 1 := (by kernel_rfl); rw [hb, Nat.mul_one]; omega) (by omega)) ?_
     refine zv1 ?_
     refine zrt ?_
     exact ResQ_1H List.length_set rfl (closed_set hcl trivial) (get_lt hq) ⟨rfl, rfl⟩
    ·(try rw [h4]); replace h4 := zcl h4
     refine zu3 ?_
     refine zsp 53 rfl (fun h5 => ?_) fun h5 => ?_
     ·rw [h5]; replace h5 := zcl h5
      refine zv4 ?_
      refine AWp_cond rfl (fun h6 => ?_) (fun h6 => ?_)
      ·(try rw [h6]); replace h6 := zcl h6
       refine zu2 ?_
       refine zt rfl (op_shr rfl rfl rfl (by decide) (show v / 2 ^ min (18 : Int).toNat IntKind.i32.bits = v / 262144 from rfl)) ?_
       refine zt rfl (op_convW (r := v / 262144) rfl (by rw [Tryd.underlying21]; rfl) Tryd.underlying5 rfl (u8_mod (by omega))) ?_
       refine zt rfl (op_or rfl rfl rfl (or240 (by omega) (by omega))) ?_
       refine zg1 ?_
       refine zt rfl (op_shr rfl rfl rfl (by decide) (show v / 2 ^ min (12 : Int).toNat IntKind.i32.bits = v / 4096 from rfl)) ?_
       refine zt rfl (op_convW (r := v / 4096 % 256) rfl (by rw [Tryd.underlying21]; rfl) Tryd.underlying5 rfl (u8_mod (by omega))) ?_
       refine zt rfl (op_and rfl rfl rfl (and63 (r := v / 4096 % 64) (by omega) (by omega) (by omega))) ?_
       refine zt rfl (op_or rfl rfl rfl (or128 (by omega) (by omega))) ?_
       refine zg1 ?_
       refine zt rfl (op_shr rfl rfl rfl (by decide) (show v / 2 ^ min (6 : Int).toNat IntKind.i32.bits = v / 64 from rfl)) ?_
       refine zt rfl (op_convW (r := v / 64 % 256) rfl (by rw [Tryd.underlying21]; rfl) Tryd.underlying5 rfl (u8_mod (by omega))) ?_
       refine zt rfl (op_and rfl rfl rfl (and63 (r := v / 64 % 64) (by omega) (by omega) (by omega))) ?_
       refine zt rfl (op_or rfl rfl rfl (or128 (by omega) (by omega))) ?_
       refine zg1 ?_
       refine zt rfl (op_convW (r := v % 256) rfl (by rw [Tryd.underlying21]; rfl) Tryd.underlying5 rfl (u8_mod (by omega))) ?_
       refine zt rfl (op_and rfl rfl rfl (and63 (r := v % 64) (by omega) (by omega) (by omega))) ?_
       refine zt rfl (op_or rfl rfl rfl (or128 (by omega) (by omega))) ?_
       refine zt rfl (op_buildSlice [[_], [_], [_], [_]] rfl Tryd.underlying56 Tryd.sizeOf5 Tryd.zeroValue5 rfl (by decide) (by decide) rfl rfl rfl rfl rfl) ?_
       refine zt rfl (op_appendB (l2 := rchL v) (d := .slice 5) rfl (.inr ⟨_, rfl⟩) Tryd.underlying56 Tryd.underlying56 (i := ((Tryd.prog.info? 5).getD default)) (by kernel_rfl) rfl rfl rfl rfl hq rfl (by rw [rch4 (by omega) (by omega) (by omega)]; exact sb4 ⟨by omega, by omega⟩ ⟨by omega, by omega⟩ ⟨by omega, by omega⟩ ⟨by omega, by omega⟩) (by rfl) (by have hb : ((Tryd.prog.info? 5).getD default).bytes = 1 := (by kernel_rfl); rw [hb, Nat.mul_one]; omega) (by omega)) ?_
       refine zv1 ?_
       refine zrt ?_
       exact ResQ_1H List.length_set rfl (closed_set hcl trivial) (get_lt hq) ⟨rfl, rfl⟩
      ·(try rw [h6]); replace h6 := zcl h6
       refine zu1 ?_
       refine zt rfl (op_buildSlice [[_], [_], [_]] rfl Tryd.underlying56 Tryd.sizeOf5 Tryd.zeroValue5 rfl (by decide) (by decide) rfl rfl rfl rfl rfl) ?_
       refine zt rfl (op_appendB (l2 := rchL v) (d := .slice 5) rfl (.inr ⟨_, rfl⟩) Tryd.underlying56 Tryd.underlying56 (i := ((Tryd.prog.info? 5).getD default)) (by kernel_rfl) rfl rfl rfl rfl hq rfl (by exfalso; omega) (by rfl) (by have hb : ((Tryd.prog.info? 5).getD default).bytes = 1 := (by kernel_rfl); rw [hb, Nat.mul_one]; omega) (by omega)) ?_
       refine zv1 ?_
       refine zrt ?_
       exact ResQ_1H List.length_set rfl (closed_set hcl trivial) (get_lt hq) ⟨rfl, rfl⟩
     ·rw [h5]; replace h5 := zcl h5
      refine zv4 ?_
      refine AWp_condF rfl ?_
      refine zu1 ?_
      refine zt rfl (op_buildSlice [[_], [_], [_]] rfl Tryd.underlying56 Tryd.sizeOf5 Tryd.zeroValue5 rfl (by decide) (by decide) rfl rfl rfl rfl rfl) ?_
      refine zt rfl (op_appendB (l2 := rchL v) (d := .slice 5) rfl (.inr ⟨_, rfl⟩) Tryd.underlying56 Tryd.underlying56 (i := ((Tryd.prog.info? 5).getD default)) (by kernel_rfl) rfl rfl rfl rfl hq rfl (by exfalso; omega) (by rfl) (by have hb : ((Tryd.prog.info? 5).getD default).bytes = 1 := (by kernel_rfl); rw [hb, Nat.mul_one]; omega) (by omega)) ?_
      refine zv1 ?_
      refine zrt ?_
      exact ResQ_1H List.length_set rfl (closed_set hcl trivial) (get_lt hq) ⟨rfl, rfl⟩
   ·rw [h3]; replace h3 := zcl h3
    refine zv4 ?_
    refine AWp_condF rfl ?_
    refine zu3 ?_
    refine zsp 53 rfl (fun h7 => ?_) fun h7 => ?_
    ·rw [h7]; replace h7 := zcl h7
     refine zv4 ?_
     refine AWp_cond rfl (fun h8 => ?_) (fun h8 => ?_)
     ·(try rw [h8]); replace h8 := zcl h8
      refine zu2 ?_
      refine zt rfl (op_shr rfl rfl rfl (by decide) (show v / 2 ^ min (18 : Int).toNat IntKind.i32.bits = v / 262144 from rfl)) ?_
      refine zt rfl (op_convW (r := v / 262144) rfl (by rw [Tryd.underlying21]; rfl) Tryd.underlying5 rfl (u8_mod (by omega))) ?_
      refine zt rfl (op_or rfl rfl rfl (or240 (by omega) (by omega))) ?_
      refine zg1 ?_
      refine zt rfl (op_shr rfl rfl rfl (by decide) (show v / 2 ^ min (12 : Int).toNat IntKind.i32.bits = v / 4096 from rfl)) ?_
      refine zt rfl (op_convW (r := v / 4096 % 256) rfl (by rw [Tryd.underlying21]; rfl) Tryd.underlying5 rfl (u8_mod (by omega))) ?_
      refine zt rfl (op_and rfl rfl rfl (and63 (r := v / 4096 % 64) (by omega) (by omega) (by omega))) ?_
      refine zt rfl (op_or rfl rfl rfl (or128 (by omega) (by omega))) ?_
      refine zg1 ?_
      refine zt rfl (op_shr rfl rfl rfl (by decide) (show v / 2 ^ min (6 : Int).toNat IntKind.i32.bits = v / 64 from rfl)) ?_
      refine zt rfl (op_convW (r := v / 64 % 256) rfl (by rw [Tryd.underlying21]; rfl) Tryd.underlying5 rfl (u8_mod (by omega))) ?_
      refine zt rfl (op_and rfl rfl rfl (and63 (r := v / 64 % 64) (by omega) (by omega) (by omega))) ?_
      refine zt rfl (op_or rfl rfl rfl (or128 (by omega) (by omega))) ?_
      refine zg1 ?_
      refine zt rfl (op_convW (r := v % 256) rfl (by rw [Tryd.underlying21]; rfl) Tryd.underlying5 rfl (u8_mod (by omega))) ?_
      refine zt rfl (op_and rfl rfl rfl (and63 (r := v % 64) (by omega) (by omega) (by omega))) ?_
      refine zt rfl (op_or rfl rfl rfl (or128 (by omega) (by omega))) ?_
      refine zt rfl (op_buildSlice [[_], [_], [_], [_]] rfl Tryd.underlying56 Tryd.sizeOf5 Tryd.zeroValue5 rfl (by decide) (by decide) rfl rfl rfl rfl rfl) ?_
      refine zt rfl (op_appendB (l2 := rchL v) (d := .slice 5) rfl (.inr ⟨_, rfl⟩) Tryd.underlying56 Tryd.underlying56 (i := ((Tryd.prog.info? 5).getD default)) (by kernel_rfl) rfl rfl rfl rfl hq rfl (by rw [rch4 (by omega) (by omega) (by omega)]; exact sb4 ⟨by omega, by omega⟩ ⟨by omega, by omega⟩ ⟨by omega, by omega⟩ ⟨by omega, by omega⟩) (by rfl) (by have hb : ((Tryd.prog.info? 5).getD default).bytes = 1 := (by kernel_rfl); rw [hb, Nat.mul_one]; omega) (by omega)) ?_
      refine zv1 ?_
      refine zrt ?_
      exact ResQ_1H List.length_set rfl (closed_set hcl trivial) (get_lt hq) ⟨rfl, rfl⟩
     ·(try rw [h8]); replace h8 := zcl h8
      refine zu1 ?_
      refine zt rfl (op_buildSlice [[_], [_], [_]] rfl Tryd.underlying56 Tryd.sizeOf5 Tryd.zeroValue5 rfl (by decide) (by decide) rfl rfl rfl rfl rfl) ?_
      refine zt rfl (op_appendB (l2 := rchL v) (d := .slice 5) rfl (.inr ⟨_, rfl⟩) Tryd.underlying56 Tryd.underlying56 (i := ((Tryd.prog.info? 5).getD default)) (by kernel_rfl) rfl rfl rfl rfl hq rfl (by exfalso; omega) (by rfl) (by have hb : ((Tryd.prog.info? 5).getD default).bytes = 1 := (by kernel_rfl); rw [hb, Nat.mul_one]; omega) (by omega)) ?_
      refine zv1 ?_
      refine zrt ?_
      exact ResQ_1H List.length_set rfl (closed_set hcl trivial) (get_lt hq) ⟨rfl, rfl⟩
    ·rw [h7]; replace h7 := zcl h7
     refine zv4 ?_
     refine AWp_condF rfl ?_
     refine zu1 ?_
     refine zt rfl (op_buildSlice [[_], [_], [_]] rfl Tryd.underlying56 Tryd.sizeOf5 Tryd.zeroValue5 rfl (by decide) (by decide) rfl rfl rfl rfl rfl) ?_
     refine zt rfl (op_appendB (l2 := rchL v) (d := .slice 5) rfl (.inr ⟨_, rfl⟩) Tryd.underlying56 Tryd.underlying56 (i := ((Tryd.prog.info? 5).getD default)) (by kernel_rfl) rfl rfl rfl rfl hq rfl (by exfalso; omega) (by rfl) (by have hb : ((Tryd.prog.info? 5).getD default).bytes = 1 := (by kernel_rfl); rw [hb, Nat.mul_one]; omega) (by omega)) ?_
     refine zv1 ?_
     refine zrt ?_
     exact ResQ_1H List.length_set rfl (closed_set hcl trivial) (get_lt hq) ⟨rfl, rfl⟩

theorem ar_c (v : Int) {σ : List AO} {q : Nat} {l : List UInt8} (hq : σ[q]? = some (.bytes 5 l)) (hv0 : 0 ≤ v) (hv1 : v ≤ 1114111) (hs : ¬ (55296 ≤ v ∧ v < 57344)) (hlen : l.length ≤ 100000000) : ACalls Tryd.prog 103 [.bts q l.length, .int .i32 v] σ (Ret (.bts q (l.length + (rchL v).length)) (σ.set q (.bytes 5 (l ++ rchL v)))) := by
 refine ACalls_body Tryd.func103 rfl Tryd.ntmps103 (res1 Tryd.results103) (Nat.le_of_ble_eq_true rfl) (fun hcl hal => ?_)
 have hr4 : (rchL v).length ≤ 4 := (rchar_size v).2
 refine zw1 ?_
 refine AWp_seq ?_
 refine zu1 ?_
 refine zt rfl (op_convW (r := v) rfl (by rw [Tryd.underlying21]; rfl) Tryd.underlying139 rfl (u32_in (by omega) (by omega))) ?_
 refine zv1 ?_
 refine AWp_cond rfl (fun h1 => ?_) (fun h1 => ?_)
 ·(try rw [h1]); replace h1 := zcl h1
  refine zu2 ?_
  refine zt rfl (op_convW (r := v) rfl (by rw [Tryd.underlying21]; rfl) Tryd.underlying5 rfl (u8_mod (by omega))) ?_
  refine zt rfl (op_buildSlice [[_]] rfl Tryd.underlying56 Tryd.sizeOf5 Tryd.zeroValue5 rfl (by decide) (by decide) rfl rfl rfl rfl rfl) ?_
  refine zt rfl (op_appendB (l2 := rchL v) (d := .slice 5) rfl (.inr ⟨_, rfl⟩) Tryd.underlying56 Tryd.underlying56 (i := ((Tryd.prog.info? 5).getD default)) (by kernel_rfl) rfl rfl rfl rfl hq rfl (by rw [rch1 (by omega)]; exact sb1 ⟨by omega, by omega⟩) (by rfl) (by have hb : ((Tryd.prog.info? 5).getD default).bytes = 1 := (by kernel_rfl); rw [hb, Nat.mul_one]; omega) (by omega)) ?_
  refine zv1 ?_
  refine zrt ?_
  exact ResQ_1H List.length_set rfl (closed_set hcl trivial) (get_lt hq) ⟨rfl, rfl⟩
 ·(try rw [h1]); replace h1 := zcl h1
  refine AWp_skip ?_
  refine zu2 ?_
  refine zt rfl (zc rfl (anr_c v hq (by omega) hv1 hs hlen)) ?_
  refine zv1 ?_
  refine zrt ?_
  exact ResQ_1H List.length_set rfl (closed_set hcl trivial) (get_lt hq) ⟨rfl, rfl⟩

theorem wr_c (v : Int) {σ : List AO} {p off q : Nat} {cs : List AV} {l : List UInt8} (h : BldT Tryd.prog 58 5 σ p off q cs l) (hv0 : 0 ≤ v) (hv1 : v ≤ 1114111) (hs : ¬ (55296 ≤ v ∧ v < 57344)) (hlen : l.length + 4 ≤ 100000000) : ACalls Tryd.prog 79 [.ptr p off, .int .i32 v] σ (Ret (.tup [.int .i64 ((rchL v).length : Int), .nili]) ((σ.set p (.box (bcs cs p off q (l.length + (rchL v).length)))).set q (.bytes 5 (l ++ rchL v)))) := by
 refine ACalls_body Tryd.func79 rfl Tryd.ntmps79 (res2 Tryd.results79) (Nat.le_of_ble_eq_true rfl) (fun hcl hal => ?_)
 have hb1 : (cs.set off (.ptr p off))[off + 1]? = some (.bts q l.length) := by rw [List.getElem?_set, if_neg (by omega)]; exact h.buf
 have hpl := get_lt h.box
 have hql := get_lt h.row
 have hp1 := set_getB (σ := σ) (.box (cs.set off (.ptr p off))) hpl
 have hq1 : (σ.set p (.box (cs.set off (.ptr p off))))[q]? = some (.bytes 5 l) := by rw [set_get_neB _ h.ne]; exact h.row
 have hol : off + 1 < (cs.set off (.ptr p off)).length := (List.getElem?_eq_some_iff.1 hb1).1
 have hp2 : ((σ.set p (.box (cs.set off (.ptr p off)))).set q (.bytes 5 (l ++ rchL v)))[p]? = some (.box (cs.set off (.ptr p off))) := by rw [set_get_neB _ h.ne.symm]; exact hp1
 have hr4 : (rchL v).length ≤ 4 := (rchar_size v).2
 have hp3 : (((σ.set p (.box (cs.set off (.ptr p off)))).set q (.bytes 5 (l ++ rchL v))).set p (.box ((cs.set off (.ptr p off)).set (off + 1) (.bts q (l.length + (rchL v).length)))))[p]? = some (.box ((cs.set off (.ptr p off)).set (off + 1) (.bts q (l.length + (rchL v).length)))) := set_getB _ (by simp; exact hpl)
 have hb3 : ((cs.set off (.ptr p off)).set (off + 1) (.bts q (l.length + (rchL v).length)))[off + 1]? = some (.bts q (l.length + (rchL v).length)) := by rw [List.getElem?_set, if_pos rfl, if_pos hol]
 have hq3 : (((σ.set p (.box (cs.set off (.ptr p off)))).set q (.bytes 5 (l ++ rchL v))).set p (.box ((cs.set off (.ptr p off)).set (off + 1) (.bts q (l.length + (rchL v).length)))))[q]? = some (.bytes 5 (l ++ rchL v)) := by rw [set_get_neB _ h.ne, set_getB _ (by simp; exact hql)]
 refine zw2 ?_
 refine zu1 ?_
 refine zt rfl (zc rfl (cc_c h)) ?_
 refine zon ?_
 refine zu3 ?_
 refine zt rfl (op_load1 rfl Tryd.isAgg56 (ldv_ptr hp1 (tk1_get hb1))) ?_
 refine zt rfl (op_lenB rfl rfl Tryd.underlying56 rfl hq1 rfl) ?_
 refine zv1 ?_
 refine zu4 ?_
 refine zt rfl (op_load1 rfl Tryd.isAgg56 (ldv_ptr hp1 (tk1_get hb1))) ?_
 refine zg1 ?_
 refine zt rfl (zc rfl (ar_c v hq1 hv0 hv1 hs (by omega))) ?_
 refine zg2 ?_
 refine ztN rfl rfl (op_storeP (r := (cs.set off (.ptr p off)).set (off + 1) (.bts q (l.length + (rchL v).length))) rfl Tryd.sizeOf56 rfl rfl rfl hp2 (spl1_set _ hol) (by decide)) ?_
 refine zon ?_
 refine zu3 ?_
 refine zt rfl (op_load1 rfl Tryd.isAgg56 (ldv_ptr hp3 (tk1_get hb3))) ?_
 refine zt rfl (op_lenB rfl rfl Tryd.underlying56 rfl hq3 (by rw [List.length_append])) ?_
 refine zv4 ?_
 refine zrt ?_
 refine ResQ_2H (by simp) rfl rfl (closed_set (closed_set (closed_set hcl (ltL_set (closed_box hcl h.box) hpl)) trivial) (ltL_set (ltL_set (closed_box hcl h.box) hpl) hql)) (by simp [AV.lt, AV.ltL]) ?_
 show Ret _ _ _ _; rw [show (((σ.set p (.box (cs.set off (.ptr p off)))).set q (.bytes 5 (l ++ rchL v))).set p (.box ((cs.set off (.ptr p off)).set (off + 1) (.bts q (l.length + (rchL v).length))))) = ((σ.set p (.box (bcs cs p off q (l.length + (rchL v).length)))).set q (.bytes 5 (l ++ rchL v))) by rw [List.set_comm _ _ h.ne.symm, List.set_set]; rfl]
 refine ⟨?_, rfl⟩
 refine congrArg Out.ret (congrArg AV.tup ?_)
 refine congrArg (fun z => [AV.int .i64 z, .nili]) (?_ : _ = _); omega
end Lg
namespace Lg
open Go Go.RowKit
variable [GLay]
variable {P : Program} {σ : List AO} {s : ByteArray} {i j : Int} {a : AV} {T : TypeId} {l l' : List UInt8}
/-- The program's reader of a quoted text: its box, and its Builder's row. -/
def rdrO (σ : List AO) (s : ByteArray) (i : Int) (a : AV) (T : TypeId) (l : List UInt8) : List AO := σ ++ [.box [.str s, .int .i64 i, a, .bts (σ.length + 1) l.length], .bytes T l]
theorem rdr_box : (rdrO σ s i a T l)[σ.length]? = some (.box [.str s, .int .i64 i, a, .bts (σ.length + 1) l.length]) := by simp [rdrO]
theorem rdr_at : (rdrO σ s i a T l).set σ.length (.box [.str s, .int .i64 j, a, .bts (σ.length + 1) l.length]) = rdrO σ s j a T l := by
  unfold rdrO; rw [List.set_append_right _ _ (Nat.le_refl _), Nat.sub_self]; rfl
theorem rdr_len : (rdrO σ s i a T l).length = σ.length + 2 := by simp [rdrO]
theorem rdr_T {B : TypeId} (ha : a = .ptr σ.length 2 ∨ ∃ U n, a = .nilT σ.length U n ∧ liesAt P P.depth U (n / P.cellsOf U) 2 B 1 = true) : BldT P B T (rdrO σ s i a T l) σ.length 2 (σ.length + 1) [.str s, .int .i64 i, a, .bts (σ.length + 1) l.length] l where
  box := rdr_box
  adr := by
    rcases ha with rfl | ⟨U, n, rfl, h⟩
    · exact .inl rfl
    · exact .inr ⟨U, n, rfl, h⟩
  buf := rfl
  row := by simp [rdrO]
theorem rdr_set : ((rdrO σ s i a T l).set σ.length (.box (bcs [.str s, .int .i64 i, a, .bts (σ.length + 1) l.length] σ.length 2 (σ.length + 1) l'.length))).set (σ.length + 1) (.bytes T l') = rdrO σ s i (.ptr σ.length 2) T l' := by
  unfold rdrO bcs
  rw [List.set_append_right _ _ (Nat.le_refl _), Nat.sub_self, List.set_append_right _ _ (by omega), Nat.add_sub_cancel_left]
  rfl
theorem rdr_closed (hc : closed σ.length σ) (ha : a.lt (σ.length + 2)) : closed (σ.length + 2) (rdrO σ s i a T l) :=
  closed_own 2 hc (by simp [ownLt, AO.cells, AV.ltL, AV.lt, ha])
theorem rdr_take : (rdrO σ s i a T l).take (σ.length + 2) = rdrO σ s i a T l := List.take_of_length_le (by simp [rdrO])
end Lg
set_option maxRecDepth 20000
set_option maxHeartbeats 4000000
namespace Lg
open Go Go.Proofs Go.RowKit
variable [GLay] 
theorem hasPreB_c (s t : ByteArray) (σ : List AO) (hs : s.size ≤ 1000000) (ht : t.size ≤ 1000000) : ACalls Tryd.prog 102 [.str s, .str t] σ (Ret (.bool (decide (t.size ≤ s.size) && decide (s.extract 0 t.size = t))) σ) := by
 refine ACalls_body Tryd.func102 rfl Tryd.ntmps102 (res1 Tryd.results102) (Nat.le_of_ble_eq_true rfl) (fun hcl hal => ?_)
 refine zw1 ?_
 refine zu6 ?_
 refine zsp 10 rfl (fun h1 => ?_) fun h1 => ?_
 ·rw [h1]; replace h1 := zcl h1
  refine zv8 ?_
  refine zrt ?_
  refine ResQ_10 rfl hcl trivial (Ret_of ?_)
  rw [decide_eq_true (show t.size ≤ s.size by omega), Bool.true_and]; rfl
 ·rw [h1]; replace h1 := zcl h1
  refine zv8 ?_
  refine zrt ?_
  refine ResQ_10 rfl hcl trivial (Ret_of ?_)
  rw [decide_eq_false (show ¬ t.size ≤ s.size by omega), Bool.false_and]

theorem tHasPreB_c (s t : ByteArray) (σ : List AO) (hs : s.size ≤ 1000000) (ht : t.size ≤ 1000000) : ACalls Tryd.prog 78 [.str s, .str t] σ (Ret (.bool (decide (t.size ≤ s.size) && decide (s.extract 0 t.size = t))) σ) := by
 refine ACalls_body Tryd.func78 rfl Tryd.ntmps78 (res1 Tryd.results78) (Nat.le_of_ble_eq_true rfl) (fun hcl hal => ?_)
 refine zw1 ?_
 refine zu2 ?_
 refine zt rfl (zc rfl (hasPreB_c s t _ hs ht)) ?_
 refine zv1 ?_
 refine zrt ?_
 exact ResQ_10 rfl hcl (by simp [AV.lt, AV.ltL]) ⟨rfl, rfl⟩
end Lg
namespace Lg
open Go
def hV (s : ByteArray) (i : Nat) : Int := (rhex s (i + 2)).1
def hB (s : ByteArray) (i : Nat) : Int := (rhex s (i + 2)).2
def uPair (s : ByteArray) (i : Nat) : Prop := 55296 ≤ hV s i ∧ hV s i < 56320 ∧ 0 ≤ rlow s (i + 6)
def uSur (s : ByteArray) (i : Nat) : Prop := 55296 ≤ hV s i ∧ hV s i < 57344
instance (s : ByteArray) (i : Nat) : Decidable (uPair s i) := by unfold uPair; exact inferInstance
instance (s : ByteArray) (i : Nat) : Decidable (uSur s i) := by unfold uSur; exact inferInstance
def pairV (s : ByteArray) (i : Nat) : Int := 65536 + 1024 * (hV s i - 55296) + rlow s (i + 6) - 56320
/-- What comes of a \\u: an error and its place; where the reader stands; what was written. -/
def uE (s : ByteArray) (i : Nat) : Option (Int × Int) := if 0 ≤ hB s i then some (hB s i, 1) else if uPair s i then none else if uSur s i then some ((i : Int), 2) else none
def uI (s : ByteArray) (i : Nat) : Int := if 0 ≤ hB s i then (i : Int) + 2 else if uPair s i then (i : Int) + 12 else (i : Int) + 6
def uO (s : ByteArray) (i : Nat) : List UInt8 := if 0 ≤ hB s i then [] else if uPair s i then rchL (pairV s i) else if uSur s i then [] else rchL (hV s i)
theorem u_bad {s : ByteArray} {i : Nat} (h : 0 ≤ hB s i) : uE s i = some (hB s i, 1) ∧ uI s i = (i : Int) + 2 ∧ uO s i = [] := by unfold uE uI uO; rw [if_pos h, if_pos h, if_pos h]; exact ⟨rfl, rfl, rfl⟩
theorem u_pair {s : ByteArray} {i : Nat} (h : ¬ 0 ≤ hB s i) (h2 : uPair s i) : uE s i = none ∧ uI s i = (i : Int) + 12 ∧ uO s i = rchL (pairV s i) := by unfold uE uI uO; simp only [if_neg h, if_pos h2]; exact ⟨trivial, trivial, trivial⟩
theorem u_sur {s : ByteArray} {i : Nat} (h : ¬ 0 ≤ hB s i) (h2 : ¬ uPair s i) (h3 : uSur s i) : uE s i = some ((i : Int), 2) ∧ uI s i = (i : Int) + 6 ∧ uO s i = [] := by unfold uE uI uO; simp only [if_neg h, if_neg h2, if_pos h3]; exact ⟨trivial, trivial, trivial⟩
theorem u_plain {s : ByteArray} {i : Nat} (h : ¬ 0 ≤ hB s i) (h2 : ¬ uPair s i) (h3 : ¬ uSur s i) : uE s i = none ∧ uI s i = (i : Int) + 6 ∧ uO s i = rchL (hV s i) := by unfold uE uI uO; simp only [if_neg h, if_neg h2, if_neg h3]; exact ⟨trivial, trivial, trivial⟩
theorem hV_ok (s : ByteArray) (i : Nat) : (hB s i < 0 → i + 6 ≤ s.size ∧ 0 ≤ hV s i ∧ hV s i < 65536) ∧ -1 ≤ hB s i ∧ (i + 2 ≤ s.size → hB s i ≤ s.size) := by
  unfold hB hV
  rcases rhex_ok s (i + 2) with ⟨h1, h2, h3, h4⟩ | ⟨h1, h2, h3, h4⟩
  · exact ⟨fun _ => ⟨by omega, h3, h4⟩, by omega, fun _ => by omega⟩
  · exact ⟨fun h => by omega, by omega, h4⟩
/-- Does a low half stand there? -/
theorem rlow_iff (s : ByteArray) (a : Nat) : 0 ≤ rlow s a ↔ (a + 2 ≤ s.size ∧ (bat s a).toNat = 92 ∧ (bat s (a + 1)).toNat = 117) ∧ (rhex s (a + 2)).2 < 0 ∧ 56320 ≤ (rhex s (a + 2)).1 ∧ (rhex s (a + 2)).1 < 57344 := by
  have h := rhex_ok s (a + 2)
  unfold rlow
  constructor
  · intro h0
    split at h0
    · omega
    · split at h0
      · omega
      · split at h0
        · omega
        · rename_i h1 h2 h3
          refine ⟨⟨by omega, by omega, by omega⟩, by omega, by omega, by omega⟩
  · rintro ⟨⟨h1, h2, h3⟩, h4, h5, h6⟩
    rw [if_neg (by omega), if_neg (by omega), if_neg (by omega)]; omega
theorem rlow_val {s : ByteArray} {a : Nat} (h : 0 ≤ rlow s a) : rlow s a = (rhex s (a + 2)).1 := by
  have h1 := (rlow_iff s a).1 h
  have h := rhex_ok s (a + 2)
  unfold rlow
  rw [if_neg (by omega), if_neg (by omega), if_neg (by omega)]
/-- Does \\u stand there? -/
theorem pre_u (s : ByteArray) (a : Nat) (h : a ≤ s.size) : (decide ((⟨#[92, 117]⟩ : ByteArray).size ≤ (s.extract a s.size).size) && decide ((s.extract a s.size).extract 0 (⟨#[92, 117]⟩ : ByteArray).size = ⟨#[92, 117]⟩)) = decide (a + 2 ≤ s.size ∧ (bat s a).toNat = 92 ∧ (bat s (a + 1)).toNat = 117) := by
  obtain ⟨l, rfl⟩ : ∃ l, s = ba l := ⟨_, ba_eta s⟩
  rw [ba_suf, ba_size, ba_size, show (⟨#[92, 117]⟩ : ByteArray).size = 2 from rfl, ba_pre, show (⟨#[92, 117]⟩ : ByteArray) = ba [92, 117] from rfl, bat_ba, bat_ba]
  have g0 : l.getD a 0 = (l.drop a).getD 0 0 := by simp [List.getD_eq_getElem?_getD]
  have g1 : l.getD (a + 1) 0 = (l.drop a).getD 1 0 := by simp [List.getD_eq_getElem?_getD]
  rw [ba_size] at h
  have hl : l.length = a + (l.drop a).length := by rw [List.length_drop]; omega
  rw [g0, g1, hl]
  have e92 : ∀ x : UInt8, x = 92 ↔ x.toNat = 92 := fun x => ⟨fun e => by rw [e]; rfl, fun e => UInt8.toNat_inj.1 e⟩
  have e117 : ∀ x : UInt8, x = 117 ↔ x.toNat = 117 := fun x => ⟨fun e => by rw [e]; rfl, fun e => UInt8.toNat_inj.1 e⟩
  cases hd : l.drop a with
  | nil => simp
  | cons x r =>
    cases r with
    | nil => simp
    | cons y r => simp [ba_inj, e92, e117]
end Lg
namespace Lg
open Go Go.RowKit
variable [GLay]
variable {P : Program} {σ : List AO} {e : Env} {o : Oper}
theorem op_shl {T T' : TypeId} {x y : Operand} {k yk : IntKind} {n m r : Int} (ho : o.op = .binOp .shl T x y T') (hx : opv e x = .int k n) (hy : opv e y = .int yk m) (hm : 0 ≤ m) (hr : k.wrap (n * 2 ^ min m.toNat k.bits) = r) : AOp P σ e o (.int k r) σ :=
  op_bin ho hx hy fun s cx cy _ _ h1 h2 => by
    rw [h1.inv_int, h2.inv_int]
    refine ⟨.int k r, ?_, .int _ _, by simp [eqGuard]⟩
    rw [← hr]
    simp only [binOp, Op.shift]
    rw [if_neg (by omega)]
    rfl
section
variable {s : ByteArray} {i j : Int} {a a' : AV} {T : TypeId} {l l' : List UInt8}
theorem rdr_closed2 (hc : closed (rdrO σ s i a T l).length (rdrO σ s i a T l)) (ha : a'.lt (rdrO σ s i a T l).length) : closed (rdrO σ s i a T l).length (rdrO σ s j a' T l') := by
  have e : rdrO σ s j a' T l' = ((rdrO σ s i a T l).set σ.length (.box [.str s, .int .i64 j, a', .bts (σ.length + 1) l'.length])).set (σ.length + 1) (.bytes T l') := by
    unfold rdrO
    rw [List.set_append_right _ _ (Nat.le_refl _), Nat.sub_self, List.set_append_right _ _ (by omega), Nat.add_sub_cancel_left]
    rfl
  rw [e]
  exact closed_set (closed_set hc (by rw [rdr_len] at ha ⊢; simp [AO.cells, AV.ltL, AV.lt, ha])) trivial
theorem rdr_alt (hc : closed (rdrO σ s i a T l).length (rdrO σ s i a T l)) : a.lt (rdrO σ s i a T l).length := (closed_box hc rdr_box).2.2.1
end
end Lg
