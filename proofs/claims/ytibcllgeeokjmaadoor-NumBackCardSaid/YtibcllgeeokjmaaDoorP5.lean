/- A part of the proof of NumBack: what is shown is parsed; numbers are ordered; a count is as it counts: Ln1 Ln2 Ln3 Ln4 Ln5 Ln6 N3 Ln7 N4. -/
import Derived.Test.YtibcllgeeokjmaaDoorP3
import Derived.Test.YtibcllgeeokjmaaDoorP4
import Derived.Test.YtibcllgeeokjmaaDoorProg
import Derived.Lib.ItoaNum
import Derived.Lib.Atoi
set_option linter.unusedVariables false
set_option linter.unusedSimpArgs false
set_option linter.unusedSectionVars false
namespace Lg
open Go
/-! ### A number's text as a list -/
abbrev BL := List UInt8
def isD (b : UInt8) : Bool := decide (48 ≤ b.toNat) && decide (b.toNat ≤ 57)
theorem isD_iff (b : UInt8) : isD b = true ↔ 48 ≤ b.toNat ∧ b.toNat ≤ 57 := by simp [isD]
theorem bat_list {s : ByteArray} {i : Nat} (h : i < s.size) : s.data.toList.drop i = bat s i :: s.data.toList.drop (i + 1) := by
  have h' : i < s.data.toList.length := by rw [Array.length_toList]; exact h
  rw [List.drop_eq_getElem_cons h']
  congr 1
  unfold bat
  rw [List.getD_eq_getElem?_getD, List.getElem?_eq_getElem h']; rfl
theorem drop_end {s : ByteArray} {i : Nat} (h : s.size ≤ i) : s.data.toList.drop i = [] := List.drop_eq_nil_of_le (by rw [Array.length_toList]; exact h)
theorem runl_tw (s : ByteArray) (i : Nat) : runl s i = ((s.data.toList.drop i).takeWhile isD).length := by
  by_cases h : i < s.size ∧ dig s i
  · rw [runl_yes h.1 h.2, bat_list h.1, List.takeWhile_cons, if_pos ((isD_iff _).2 h.2), List.length_cons, runl_tw s (i + 1)]
  · rw [runl_no h]
    by_cases h1 : i < s.size
    · rw [bat_list h1, List.takeWhile_cons, if_neg (fun e => h ⟨h1, (isD_iff _).1 e⟩)]; rfl
    · rw [drop_end (by omega)]; rfl
termination_by s.size - i
theorem nloop_fold (s : ByteArray) (i : Nat) (t : NSt) : nloop s i t = (s.data.toList.drop i).foldl (fun t b => nstep b.toNat t) t := by
  by_cases h : i < s.size
  · rw [nloop, if_pos h, bat_list h, List.foldl_cons, nloop_fold s (i + 1)]
  · rw [nl0 (by omega), drop_end (by omega)]; rfl
termination_by s.size - i
/-! #### What End takes, by suffixes -/
def strip (c : Nat) : BL → BL
  | [] => []
  | b :: r => if b.toNat = c then r else b :: r
def xPow : BL → BL × Bool
  | [] => ([], true)
  | b :: r => if b.toNat = 101 ∨ b.toNat = 69 then
      (let q := match r with
        | [] => []
        | c :: r' => if c.toNat = 43 ∨ c.toNat = 45 then r' else c :: r'
       (q.dropWhile isD, !(q.takeWhile isD).isEmpty)) else (b :: r, true)
def xFrac : BL → BL × Bool
  | [] => xPow []
  | b :: r => if b.toNat = 46 then (if (r.takeWhile isD).isEmpty then (r, false) else xPow (r.dropWhile isD)) else xPow (b :: r)
def xInt (l : BL) : BL × Bool := if (l.takeWhile isD).isEmpty then (l, false) else
  xFrac (match l with
    | [] => []
    | b :: r => if b.toNat = 48 then r else l.dropWhile isD)
def xEnd (l : BL) : BL × Bool := xInt (strip 45 l)
theorem dropWhile_drop (l : BL) : l.dropWhile isD = l.drop (l.takeWhile isD).length := by
  induction l with
  | nil => rfl
  | cons b r ih =>
    by_cases h : isD b = true
    · simp [List.dropWhile_cons, List.takeWhile_cons, h, ih]
    · simp [List.dropWhile_cons, List.takeWhile_cons, h]
def AtP (s : ByteArray) (p : Nat × Bool) (x : BL × Bool) : Prop := p.1 ≤ s.size ∧ s.data.toList.drop p.1 = x.1 ∧ p.2 = x.2
theorem tw_empty (s : ByteArray) (i : Nat) : ((s.data.toList.drop i).takeWhile isD).isEmpty = decide (runl s i = 0) := by
  rw [runl_tw]; cases (s.data.toList.drop i).takeWhile isD <;> simp
theorem dw_run (s : ByteArray) (i : Nat) : (s.data.toList.drop i).dropWhile isD = s.data.toList.drop (i + runl s i) := by
  rw [dropWhile_drop, ← runl_tw, List.drop_drop]
theorem eSg_list {s : ByteArray} {i : Nat} (h : i ≤ s.size) : s.data.toList.drop (eSg s i) = (match s.data.toList.drop i with
        | [] => []
        | c :: r' => if c.toNat = 43 ∨ c.toNat = 45 then r' else c :: r') := by
  unfold eSg
  by_cases h1 : i < s.size
  · rw [bat_list h1]
    by_cases h2 : (bat s i).toNat = 43 ∨ (bat s i).toNat = 45
    · rw [if_pos ⟨h1, h2⟩]; simp only [h2, if_true]
    · rw [if_neg (fun h => h2 h.2)]; simp only [h2, if_false]; exact bat_list h1
  · rw [drop_end (s := s) (i := i) (by omega), if_neg (fun h => h1 h.1)]; exact drop_end (by omega)
theorem ePow_list {s : ByteArray} {i : Nat} (h : i ≤ s.size) : AtP s (ePow s i) (xPow (s.data.toList.drop i)) := by
  have hle := ePow_le h
  refine ⟨hle.2, ?_⟩
  unfold ePow
  by_cases h1 : i < s.size
  · rw [bat_list h1]
    by_cases h2 : (bat s i).toNat = 101 ∨ (bat s i).toNat = 69
    · rw [if_pos ⟨h1, h2⟩]
      simp only [xPow, h2, if_true, ← eSg_list (show i + 1 ≤ s.size from h1), tw_empty, dw_run]
      by_cases h3 : runl s (eSg s (i + 1)) = 0
      · simp [h3]
      · simp [h3]
    · rw [if_neg (fun h => h2 h.2)]; simp only [xPow, h2, if_false]; exact ⟨bat_list h1, trivial⟩
  · rw [drop_end (s := s) (i := i) (by omega), if_neg (fun h => h1 h.1)]; exact ⟨drop_end (by omega), rfl⟩
theorem eFrac_list {s : ByteArray} {i : Nat} (h : i ≤ s.size) : AtP s (eFrac s i) (xFrac (s.data.toList.drop i)) := by
  unfold eFrac
  by_cases h1 : i < s.size
  · by_cases h2 : (bat s i).toNat = 46
    · rw [if_pos ⟨h1, h2⟩, bat_list h1]
      simp only [xFrac, h2, if_true, tw_empty, dw_run]
      have hr := runl_le s (i + 1)
      by_cases h3 : runl s (i + 1) = 0
      · simp only [h3, decide_true, if_true]; exact ⟨h1, rfl, rfl⟩
      · simp only [h3, decide_false, Bool.false_eq_true, if_false]; exact ePow_list (by omega)
    · rw [if_neg (fun h => h2 h.2)]
      have := ePow_list h
      rw [bat_list h1] at this ⊢
      simp only [xFrac, h2, if_false]; exact this
  · rw [if_neg (fun h => h1 h.1)]
    have := ePow_list h
    rw [drop_end (s := s) (i := i) (by omega)] at this ⊢
    exact this
theorem rEnd_list (s : ByteArray) : AtP s (rEnd s 0) (xEnd s.data.toList) := by
  have h0 : s.data.toList.drop (eSign s 0) = strip 45 s.data.toList := by
    unfold eSign
    by_cases h1 : 0 < s.size
    · have hb := bat_list h1
      rw [List.drop_zero] at hb
      by_cases h2 : (bat s 0).toNat = 45
      · rw [if_pos ⟨h1, h2⟩]; rw [hb]; simp only [strip, h2, if_true]; rw [← hb]
      · rw [if_neg (fun h => h2 h.2), List.drop_zero, hb]; simp only [strip, h2, if_false]
    · have hb := drop_end (s := s) (i := 0) (by omega)
      rw [List.drop_zero] at hb
      rw [if_neg (fun h => h1 h.1), hb]; rfl
  have hs := eSign_le (s := s) (Nat.zero_le _)
  unfold xEnd rEnd xInt
  rw [← h0, tw_empty]
  by_cases h3 : runl s (eSign s 0) = 0
  · simp only [h3, if_true, decide_true]; exact ⟨hs.2, rfl, rfl⟩
  · simp only [h3, if_false, decide_false, Bool.false_eq_true]
    have hi := eInt_le hs.2 h3
    have := eFrac_list (s := s) (i := eSign s 0 + eInt s (eSign s 0)) hi.2
    have hlt : eSign s 0 < s.size := by omega
    rw [dw_run]
    rw [bat_list hlt] at *
    unfold eInt at this ⊢
    by_cases h4 : (bat s (eSign s 0)).toNat = 48
    · simp only [h4, if_true] at this ⊢; exact this
    · simp only [h4, if_false] at this ⊢; exact this
end Lg
namespace Lg
open Go
/-! ### The program's own reading of a number -/
def pExp : BL → BL × Bool
  | [] => ([48], true)
  | b :: q => (strip 43 q, (decide (b.toNat = 101) || decide (b.toNat = 69)) && (!(strip 45 (strip 43 q)).isEmpty && (decide (((strip 45 (strip 43 q)).takeWhile isD).length = (strip 45 (strip 43 q)).length) && !(decide (strip 43 q ≠ q) && decide (strip 45 (strip 43 q) ≠ strip 43 q)))))
def pFrac : BL → Option (BL × BL)
  | [] => some ([], [])
  | b :: r => if b.toNat = 46 then (if (r.takeWhile isD).isEmpty then none else some (r.takeWhile isD, r.dropWhile isD)) else some ([], b :: r)
def pParts (l : BL) : BL × BL × BL × Bool :=
  if (l.takeWhile isD).length = 0 ∨ (1 < (l.takeWhile isD).length ∧ l.headD 0 = 48) then ([], [], [], false) else
  match pFrac (l.dropWhile isD) with
  | none => ([], [], [], false)
  | some (f, r) => (l.takeWhile isD, f, (pExp r).1, (pExp r).2)
theorem dw_nil {l : BL} : l.dropWhile isD = [] ↔ (l.takeWhile isD).length = l.length := by
  have h := congrArg List.length (List.takeWhile_append_dropWhile (p := isD) (l := l))
  rw [List.length_append] at h
  constructor
  · intro e; rw [e] at h; simpa using h
  · intro e; exact List.eq_nil_of_length_eq_zero (by omega)
theorem strip_ne {c : Nat} {b : UInt8} {r : BL} (h : ¬ b.toNat = c) : strip c (b :: r) = b :: r := by simp [strip, h]
theorem strip_eq {c : Nat} {b : UInt8} {r : BL} (h : b.toNat = c) : strip c (b :: r) = r := by simp [strip, h]
theorem xPow_iff (r : BL) : xPow r = ([], true) ↔ (pExp r).2 = true := by
  cases r with
  | nil => simp [xPow, pExp]
  | cons b q =>
    by_cases he : b.toNat = 101 ∨ b.toNat = 69
    · have he' : (decide (b.toNat = 101) || decide (b.toNat = 69)) = true := by simpa using he
      simp only [xPow, he, if_true, pExp, he', Bool.true_and]
      have key : ∀ m : BL, ((m.dropWhile isD, !(m.takeWhile isD).isEmpty) = (([], true) : BL × Bool)) ↔ (!m.isEmpty && decide ((m.takeWhile isD).length = m.length)) = true := by
        intro m
        simp only [Prod.mk.injEq, dw_nil, Bool.and_eq_true, decide_eq_true_eq, Bool.not_eq_true']
        constructor
        · rintro ⟨h1, h2⟩
          refine ⟨?_, h1⟩
          cases m with
          | nil => simp at h2
          | cons => rfl
        · rintro ⟨h1, h2⟩
          refine ⟨h2, ?_⟩
          cases m with
          | nil => simp at h1
          | cons x m =>
            cases ht : (x :: m).takeWhile isD with
            | nil => rw [ht] at h2; simp at h2
            | cons => rfl
      cases q with
      | nil => simp [strip]
      | cons c q2 =>
        by_cases h43 : c.toNat = 43
        · have h45 : ¬ c.toNat = 45 := by omega
          rw [strip_eq h43]
          simp only [h43, true_or, if_true]
          rw [key]
          have hne : (decide (q2 ≠ c :: q2)) = true := by
            simp only [ne_eq, decide_eq_true_eq]; intro e; have := congrArg List.length e; simp at this
          rw [hne]
          cases q2 with
          | nil => simp [strip]
          | cons d q3 =>
            by_cases hd : d.toNat = 45
            · rw [strip_eq hd]
              have hdn : isD d = false := by simp [isD]; omega
              have hq : decide (q3 ≠ d :: q3) = true := by
                simp only [ne_eq, decide_eq_true_eq]; intro e; have := congrArg List.length e; simp at this
              simp [hq, List.takeWhile_cons, hdn]
            · rw [strip_ne hd]; simp
        · rw [strip_ne h43]
          by_cases h45 : c.toNat = 45
          · simp only [h45, or_true, if_true]
            rw [key, strip_eq h45]; simp
          · have : ¬ (c.toNat = 43 ∨ c.toNat = 45) := by omega
            simp only [this, if_false]
            rw [key, strip_ne h45]; simp
    · have he' : (decide (b.toNat = 101) || decide (b.toNat = 69)) = false := by
        simp only [Bool.or_eq_false_iff, decide_eq_false_iff_not]; omega
      simp [xPow, he, pExp, he']
theorem xFrac_iff (r : BL) : xFrac r = ([], true) ↔ ∃ f r', pFrac r = some (f, r') ∧ (pExp r').2 = true := by
  cases r with
  | nil => exact ⟨fun _ => ⟨[], [], rfl, rfl⟩, fun _ => rfl⟩
  | cons b q =>
    by_cases h : b.toNat = 46
    · simp only [xFrac, h, if_true, pFrac]
      by_cases h2 : (q.takeWhile isD).isEmpty = true
      · simp [h2]
      · simp only [h2, Bool.false_eq_true, if_false]
        rw [xPow_iff]
        constructor
        · intro h3; exact ⟨_, _, rfl, h3⟩
        · rintro ⟨f, r', h3, h4⟩; simp only [Option.some.injEq, Prod.mk.injEq] at h3; rw [h3.2]; exact h4
    · simp only [xFrac, h, if_false, pFrac]
      rw [xPow_iff]
      constructor
      · intro h3; exact ⟨_, _, rfl, h3⟩
      · rintro ⟨f, r', h3, h4⟩; simp only [Option.some.injEq, Prod.mk.injEq] at h3; rw [h3.2]; exact h4
theorem xInt_iff (l : BL) : xInt l = ([], true) ↔ (pParts l).2.2.2 = true := by
  unfold xInt pParts
  cases l with
  | nil => simp
  | cons b r =>
    by_cases hb : isD b = true
    · have htw : (b :: r).takeWhile isD = b :: r.takeWhile isD := by simp [List.takeWhile_cons, hb]
      have hdw : (b :: r).dropWhile isD = r.dropWhile isD := by simp [List.dropWhile_cons, hb]
      rw [htw, hdw]
      simp only [List.isEmpty_cons, Bool.false_eq_true, if_false, List.length_cons, Nat.add_one_ne_zero, false_or, List.headD_cons]
      by_cases h48 : b.toNat = 48
      · have hb48 : b = 48 := UInt8.toNat_inj.1 h48
        subst hb48
        have e48 : UInt8.toNat 48 = 48 := rfl
        simp only [e48, if_true, and_true]
        cases r with
        | nil => simp [xFrac, xPow, pFrac, pExp]
        | cons c q =>
          by_cases hc : isD c = true
          · have hc2 := (isD_iff c).1 hc
            have h1 : ¬ c.toNat = 46 := by omega
            have h2 : ¬ (c.toNat = 101 ∨ c.toNat = 69) := by omega
            simp [xFrac, h1, xPow, h2, List.takeWhile_cons, hc]
          · have htw2 : (c :: q).takeWhile isD = [] := by simp [List.takeWhile_cons, hc]
            have hdw2 : (c :: q).dropWhile isD = c :: q := by simp [List.dropWhile_cons, hc]
            rw [htw2, hdw2]
            simp only [List.length_nil, Nat.lt_irrefl, if_false]
            rw [xFrac_iff]
            constructor
            · rintro ⟨f, r', h1, h2⟩; rw [h1]; exact h2
            · intro h
              cases hp : pFrac (c :: q) with
              | none => rw [hp] at h; simp at h
              | some p => obtain ⟨f, r'⟩ := p; rw [hp] at h; exact ⟨f, r', rfl, h⟩
      · have hb48 : ¬ b = 48 := fun e => h48 (by rw [e]; rfl)
        simp only [h48, if_false, hb48, and_false]
        rw [xFrac_iff]
        constructor
        · rintro ⟨f, r', h1, h2⟩; rw [h1]; exact h2
        · intro h
          cases hp : pFrac (r.dropWhile isD) with
          | none => rw [hp] at h; simp at h
          | some p => obtain ⟨f, r'⟩ := p; rw [hp] at h; exact ⟨f, r', rfl, h⟩
    · have htw : (b :: r).takeWhile isD = [] := by simp [List.takeWhile_cons, hb]
      rw [htw]; simp
/-- Is it a number's text? -/
theorem rEnd_iff (s : ByteArray) : ¬ ((rEnd s 0).2 = false ∨ ¬ (rEnd s 0).1 = s.size) ↔ (pParts (strip 45 s.data.toList)).2.2.2 = true := by
  have hl := rEnd_list s
  rw [← xInt_iff]
  change _ ↔ xEnd s.data.toList = ([], true)
  obtain ⟨h1, h2, h3⟩ := hl
  have hlen : s.data.toList.length = s.size := Array.length_toList
  constructor
  · intro h
    have h4 : (rEnd s 0).2 = true := by cases hb : (rEnd s 0).2 <;> simp_all
    have h5 : (rEnd s 0).1 = s.size := by by_cases e : (rEnd s 0).1 = s.size <;> simp_all
    rw [h5] at h2
    have h6 : xEnd s.data.toList = ((xEnd s.data.toList).1, (xEnd s.data.toList).2) := rfl
    rw [h6, ← h2, ← h3, h4, drop_end (Nat.le_refl _)]
  · intro h
    rw [h] at h2 h3
    have h5 : (rEnd s 0).1 = s.size := by
      have := congrArg List.length h2
      rw [List.length_drop] at this
      simp at this h1; omega
    simp only [not_or, Bool.not_eq_false, Decidable.not_not]
    exact ⟨h3, h5⟩
end Lg
namespace Lg
open Go
/-! ### What a number's text comes to -/
def ba (l : BL) : ByteArray := ⟨l.toArray⟩
theorem ba_toList (l : BL) : (ba l).data.toList = l := by simp [ba]
theorem ba_size (l : BL) : (ba l).size = l.length := by
  have : (ba l).data.toList.length = (ba l).size := Array.length_toList
  rw [← this, ba_toList]
theorem ba_ext {a b : ByteArray} (h : a.data.toList = b.data.toList) : a = b := by
  cases a; cases b; congr 1; exact Array.ext' h
theorem ba_eta (d : ByteArray) : d = ba d.data.toList := ba_ext (by rw [ba_toList])
theorem u8b_byte (b : UInt8) : u8b (b.toNat : Int) = b := by
  unfold u8b; simp
def satL (x : Int) (l : BL) : Int := l.foldl (fun x b => min (10 * x + (b.toNat : Int) - 48) 1000000) x
def valL (x : Int) (l : BL) : Int := l.foldl (fun x b => 10 * x + (b.toNat : Int) - 48) x
def aD (l : BL) : Prop := ∀ b ∈ l, isD b = true
theorem aD_cons {b : UInt8} {l : BL} (h : aD (b :: l)) : (48 ≤ b.toNat ∧ b.toNat ≤ 57) ∧ aD l := ⟨(isD_iff b).1 (h b (List.mem_cons_self ..)), fun c hc => h c (List.mem_cons_of_mem _ hc)⟩
theorem satL_eq : ∀ (l : BL) (v : Int), aD l → 0 ≤ v → satL (min v 1000000) l = min (valL v l) 1000000
  | [], v, _, _ => rfl
  | b :: l, v, h, hv => by
    have hb := aD_cons h
    show satL (min (10 * (min v 1000000) + (b.toNat : Int) - 48) 1000000) l = min (valL (10 * v + (b.toNat : Int) - 48) l) 1000000
    rw [← satL_eq l _ hb.2 (by omega)]
    congr 1; omega
theorem valL_ge : ∀ (l : BL) (v : Int), aD l → 0 ≤ v → v * 10 ^ l.length ≤ valL v l
  | [], v, _, _ => by simp [valL]
  | b :: l, v, h, hv => by
    have hb := aD_cons h
    show v * 10 ^ (l.length + 1) ≤ valL (10 * v + (b.toNat : Int) - 48) l
    refine Int.le_trans ?_ (valL_ge l _ hb.2 (by omega))
    rw [Int.pow_succ', ← Int.mul_assoc]
    exact Int.mul_le_mul_of_nonneg_right (by omega) (Int.pow_nonneg (by decide))
theorem valL_zeros (l : BL) : valL 0 (l.dropWhile (· == 48)) = valL 0 l := by
  induction l with
  | nil => rfl
  | cons b l ih =>
    by_cases h : b = 48
    · subst h
      simp only [List.dropWhile_cons, beq_self_eq_true, if_true, ih]
      rfl
    · have : (b == 48) = false := by simpa using h
      simp [List.dropWhile_cons, this]
/-- small's size. -/
def smallN (x : BL) : Int := if (x.dropWhile (· == 48)).length < 15 then valL 0 (x.dropWhile (· == 48)) else 1000000000000000
theorem aD_dw {l : BL} (h : aD l) : aD (l.dropWhile (· == 48)) := fun b hb => h b ((List.dropWhile_sublist _).mem hb)
theorem smallN_sat {x : BL} (h : aD x) : min (smallN x) 1000000 = satL 0 x ∧ 0 ≤ smallN x := by
  have h0 : satL 0 x = min (valL 0 x) 1000000 := satL_eq x 0 h (Int.le_refl _)
  rw [h0, ← valL_zeros x]
  have hd := aD_dw h
  have hge := valL_ge _ 0 hd (Int.le_refl _)
  rw [Int.zero_mul] at hge
  unfold smallN
  split
  · exact ⟨rfl, hge⟩
  · rename_i hl
    refine ⟨?_, by decide⟩
    cases hx : x.dropWhile (· == 48) with
    | nil => rw [hx] at hl; simp at hl
    | cons c r =>
      rw [hx] at hl hd
      have hc := aD_cons hd
      have hc48 : ¬ c = 48 := by
        intro e
        have := List.head_dropWhile_not (p := (· == (48 : UInt8))) (l := x) (by rw [hx]; simp)
        simp [hx, e] at this
      have hc2 : ¬ c.toNat = 48 := fun e => hc48 (UInt8.toNat_inj.1 e)
      have hv : valL 0 (c :: r) = valL (10 * 0 + (c.toNat : Int) - 48) r := rfl
      have h1 := valL_ge r (10 * 0 + (c.toNat : Int) - 48) hc.2 (by omega)
      have h2 : (10 : Int) ^ 14 ≤ 10 ^ r.length := by
        have := Nat.pow_le_pow_right (n := 10) (by decide) (show 14 ≤ r.length by simp at hl; omega)
        have h5 : ((10 ^ 14 : Nat) : Int) ≤ ((10 ^ r.length : Nat) : Int) := Int.ofNat_le.2 this
        rw [Int.natCast_pow, Int.natCast_pow] at h5
        exact h5
      have h3 : (1 : Int) * 10 ^ r.length ≤ (10 * 0 + (c.toNat : Int) - 48) * 10 ^ r.length := Int.mul_le_mul_of_nonneg_right (by omega) (Int.pow_nonneg (by decide))
      have h4 : (10 : Int) ^ 14 = 100000000000000 := by decide
      rw [hv]; omega
/-! #### The loop over the text -/
abbrev nfold (l : BL) (t : NSt) : NSt := l.foldl (fun t b => nstep b.toNat t) t
theorem fold_dig : ∀ (l : BL) (ng dn pt : Bool) (d : ByteArray) (b x : Int), aD l → nfold l ⟨ng, dn, pt, false, d, b, x⟩ = ⟨ng, dn, pt, false, ba (d.data.toList ++ l), b + (if pt = true then (l.length : Int) else 0), x⟩
  | [], ng, dn, pt, d, b, x, _ => by
    have : ba (d.data.toList ++ []) = d := by rw [List.append_nil]; exact (ba_eta d).symm
    rw [this]; cases pt <;> simp
  | c :: l, ng, dn, pt, d, b, x, h => by
    have hc := aD_cons h
    have h1 : nstep c.toNat ⟨ng, dn, pt, false, d, b, x⟩ = ⟨ng, dn, pt, false, d ++ ⟨#[c]⟩, if pt = true then b + 1 else b, x⟩ := by
      simp only [nstep, Bool.false_eq_true, if_false, u8b_byte]
      rw [if_neg (by omega), if_neg (by omega), if_neg (by omega)]
    show nfold l (nstep c.toNat _) = _
    rw [h1, fold_dig l ng dn pt _ _ x hc.2]
    congr 1
    · rw [show (d ++ ⟨#[c]⟩ : ByteArray).data.toList = d.data.toList ++ [c] by simp]; simp
    · cases pt <;> simp <;> omega
theorem fold_exp : ∀ (l : BL) (ng dn pt : Bool) (d : ByteArray) (b x : Int), aD l → nfold l ⟨ng, dn, pt, true, d, b, x⟩ = ⟨ng, dn, pt, true, d, b, satL x l⟩
  | [], ng, dn, pt, d, b, x, _ => rfl
  | c :: l, ng, dn, pt, d, b, x, h => by
    have hc := aD_cons h
    have h1 : nstep c.toNat ⟨ng, dn, pt, true, d, b, x⟩ = ⟨ng, dn, pt, true, d, b, min (10 * x + (c.toNat : Int) - 48) 1000000⟩ := by
      simp only [nstep, if_true]
      rw [if_neg (by omega), if_pos hc.1]
    show nfold l (nstep c.toNat _) = _
    rw [h1, fold_exp l ng dn pt d b _ hc.2]; rfl
theorem aD_of_len {l : BL} (h : (l.takeWhile isD).length = l.length) : aD l := by
  have h1 : l.takeWhile isD = l := by
    have := List.takeWhile_append_dropWhile (p := isD) (l := l)
    rw [dw_nil.2 h, List.append_nil] at this; exact this
  intro b hb
  rw [← h1] at hb
  exact List.all_eq_true.1 (List.all_takeWhile (p := isD) (l := l)) b hb
theorem aD_tw (l : BL) : aD (l.takeWhile isD) := fun b hb => List.all_eq_true.1 (List.all_takeWhile (p := isD) (l := l)) b hb
def hd45 : BL → Bool
  | [] => false
  | b :: _ => b == 45
theorem fold_pow {r : BL} (h : (pExp r).2 = true) (ng pt : Bool) (d : ByteArray) (b : Int) : ∃ pw, nfold r ⟨ng, false, pt, false, d, b, 0⟩ = ⟨ng, hd45 (pExp r).1, pt, pw, d, b, satL 0 (strip 45 (pExp r).1)⟩ ∧ aD (strip 45 (pExp r).1) ∧ (pExp r).1 ≠ [] := by
  cases r with
  | nil => exact ⟨false, rfl, fun b hb => by simp [pExp, strip] at hb; subst hb; rfl, by simp [pExp]⟩
  | cons e q =>
    simp only [pExp, Bool.and_eq_true, Bool.or_eq_true, decide_eq_true_eq, Bool.not_eq_true', Bool.and_eq_false_iff, decide_eq_false_iff_not] at h
    obtain ⟨he, hne, hall, hpl⟩ := h
    have hX := aD_of_len hall
    refine ⟨true, ?_, hX, ?_⟩
    · have h1 : nstep e.toNat ⟨ng, false, pt, false, d, b, 0⟩ = ⟨ng, false, pt, true, d, b, 0⟩ := by
        simp only [nstep, Bool.false_eq_true, if_false]
        rw [if_neg (by omega), if_neg (by omega), if_pos he]
      show nfold q (nstep e.toNat _) = _
      rw [h1]
      simp only [pExp]
      cases q with
      | nil => simp [strip] at hne
      | cons c q2 =>
        by_cases h43 : c.toNat = 43
        · rw [strip_eq h43] at hne hX hpl ⊢
          have hc : nstep c.toNat ⟨ng, false, pt, true, d, b, 0⟩ = ⟨ng, false, pt, true, d, b, 0⟩ := by
            simp only [nstep, if_true]; rw [if_neg (by omega), if_neg (by omega)]
          show nfold q2 (nstep c.toNat _) = _
          have hq : strip 45 q2 = q2 := by
            rcases hpl with h | h
            · exfalso; apply h; intro e; have := congrArg List.length e; simp at this
            · simpa using h
          rw [hq] at hX ⊢
          rw [hc, fold_exp q2 _ _ _ _ _ _ hX]
          congr 1
          cases q2 with
          | nil => rfl
          | cons f q3 =>
            have := aD_cons hX
            have : ¬ f = 45 := fun e => by subst e; simp at this
            simp [hd45, this]
        · rw [strip_ne h43] at hne hX hpl ⊢
          by_cases h45 : c.toNat = 45
          · rw [strip_eq h45] at hX ⊢
            have hc45 : c = 45 := UInt8.toNat_inj.1 h45
            have hc : nstep c.toNat ⟨ng, false, pt, true, d, b, 0⟩ = ⟨ng, true, pt, true, d, b, 0⟩ := by
              simp only [nstep, if_true]; rw [if_pos h45, if_neg (by omega)]
            show nfold q2 (nstep c.toNat _) = _
            rw [hc, fold_exp q2 _ _ _ _ _ _ hX]
            simp [hd45, hc45]
          · rw [strip_ne h45] at hX ⊢
            rw [fold_exp _ _ _ _ _ _ _ hX]
            have : ¬ c = 45 := fun e => h45 (by rw [e]; rfl)
            simp [hd45, this]
    · simp only [pExp]
      intro e
      rw [e] at hne; simp [strip] at hne
end Lg
namespace Lg
open Go
/-! ### Zeros cut off -/
def cutL (l : BL) : BL := l.dropWhile (· == 48)
def cutR (l : BL) : BL := (l.reverse.dropWhile (· == 48)).reverse
theorem dropWhile_drop' (p : UInt8 → Bool) (l : BL) : l.dropWhile p = l.drop (l.takeWhile p).length := by
  induction l with
  | nil => rfl
  | cons b r ih =>
    by_cases h : p b = true
    · simp [List.dropWhile_cons, List.takeWhile_cons, h, ih]
    · simp [List.dropWhile_cons, List.takeWhile_cons, h]
theorem fz_list (d : ByteArray) (i : Nat) : fz d i = i + ((d.data.toList.drop i).takeWhile (· == 48)).length := by
  by_cases h : i < d.size ∧ (bat d i).toNat = 48
  · have h1 : (bat d i == 48) = true := by simpa using UInt8.toNat_inj.1 h.2
    rw [fz_yes h.1 h.2, bat_list h.1, List.takeWhile_cons, if_pos h1, List.length_cons, fz_list d (i + 1)]; omega
  · rw [fz_no h]
    by_cases h1 : i < d.size
    · have h2 : ¬ (bat d i == 48) = true := fun e => h ⟨h1, by rw [show bat d i = 48 by simpa using e]; rfl⟩
      rw [bat_list h1, List.takeWhile_cons, if_neg h2]; rfl
    · rw [drop_end (by omega)]; rfl
termination_by d.size - i
theorem cutR_snoc (l : BL) (c : UInt8) : cutR (l ++ [c]) = if c = 48 then cutR l else l ++ [c] := by
  unfold cutR
  rw [List.reverse_append]
  by_cases h : c = 48
  · simp [h]
  · have : (c == 48) = false := by simpa using h
    simp [List.dropWhile_cons, this, h]
theorem take_snoc {l : BL} {k : Nat} (h : k < l.length) : l.take (k + 1) = l.take k ++ [l.getD k 0] := by
  rw [List.take_add_one, List.getD_eq_getElem?_getD, List.getElem?_eq_getElem h]; rfl
theorem lz_list (d : ByteArray) (f : Nat) : ∀ l : Nat, f ≤ l → l ≤ d.size → lz d f l = f + (cutR ((d.data.toList.take l).drop f)).length
  | 0, h, _ => by
    have : f = 0 := by omega
    subst this; simp [lz, cutR]
  | l + 1, h, hl => by
    have hlen : d.data.toList.length = d.size := Array.length_toList
    rw [lz]
    by_cases hf : f = l + 1
    · subst hf
      rw [if_neg (by omega)]
      have : (d.data.toList.take (l + 1)).drop (l + 1) = [] := List.drop_eq_nil_of_le (by rw [List.length_take]; omega)
      rw [this]; rfl
    · have ht : (d.data.toList.take (l + 1)).drop f = (d.data.toList.take l).drop f ++ [bat d l] := by
        rw [take_snoc (by omega), List.drop_append_of_le_length (by rw [List.length_take]; omega)]; rfl
      rw [ht, cutR_snoc]
      by_cases hb : (bat d l).toNat = 48
      · rw [if_pos ⟨by omega, hb⟩, if_pos (UInt8.toNat_inj.1 hb), lz_list d f l (by omega) (by omega)]
      · rw [if_neg (fun h => hb h.2), if_neg (fun e => hb (by rw [e]; rfl))]
        simp only [List.length_append, List.length_drop, List.length_take, List.length_cons, List.length_nil]; omega
theorem cutR_len (l : BL) : (cutR l).length ≤ l.length := by
  unfold cutR
  have := (List.dropWhile_sublist (l := l.reverse) (· == (48 : UInt8))).length_le
  simpa using this
theorem cutR_pre (l : BL) : cutR l = l.take (cutR l).length := by
  have h := List.takeWhile_append_dropWhile (p := (· == (48 : UInt8))) (l := l.reverse)
  have h2 : l = cutR l ++ (l.reverse.takeWhile (· == 48)).reverse := by
    unfold cutR
    rw [← List.reverse_append, h, List.reverse_reverse]
  have h3 := congrArg (List.take (cutR l).length) h2
  rw [List.take_left' rfl] at h3
  exact h3.symm
theorem cutR_nil {l : BL} (h : ∀ b ∈ l.head?, b ≠ 48) : cutR l = [] ↔ l = [] := by
  constructor
  · intro e
    cases l with
    | nil => rfl
    | cons b r =>
      exfalso
      have hb := h b rfl
      have : b ∈ (b :: r).reverse.dropWhile (· == 48) := by
        have h1 := List.takeWhile_append_dropWhile (p := (· == (48 : UInt8))) (l := (b :: r).reverse)
        have h2 : b ∈ (b :: r).reverse := by simp
        rw [← h1] at h2
        rcases List.mem_append.1 h2 with h3 | h3
        · have := List.all_eq_true.1 (List.all_takeWhile (p := (· == (48 : UInt8))) (l := (b :: r).reverse)) b h3
          simp at this; exact absurd this hb
        · exact h3
      unfold cutR at e
      rw [List.reverse_eq_nil_iff] at e
      rw [e] at this; simp at this
  · rintro rfl; rfl
theorem cutR_last {l : BL} (h : cutR l ≠ []) : (cutR l).getLast h ≠ 48 := by
  unfold cutR at h ⊢
  rw [List.getLast_reverse]
  have := List.head_dropWhile_not (p := (· == (48 : UInt8))) (l := l.reverse) (fun e => h (by rw [e]; rfl))
  simpa using this
theorem cutL_head (l : BL) : ∀ b ∈ (cutL l).head?, b ≠ 48 := fun b hb => by
  unfold cutL at hb
  have := List.head?_dropWhile_not (p := (· == (48 : UInt8))) l
  rw [Option.mem_def.1 hb] at this
  simpa using this
theorem cutR_head {l : BL} (h : cutR l ≠ []) : (cutR l).head? = l.head? := by
  rw [cutR_pre]
  cases l with
  | nil => simp
  | cons b r =>
    have : 0 < (cutR (b :: r)).length := List.length_pos_iff.2 h
    cases hk : (cutR (b :: r)).length with
    | zero => omega
    | succ k => rfl
/-- The program's number of a text. -/
def pNum (l : BL) : JNum × Int :=
  if (pParts (strip 45 l)).2.2.2 = false then ({}, 1) else
  if cutL ((pParts (strip 45 l)).1 ++ (pParts (strip 45 l)).2.1) = [] then ({}, 0) else
  if 60 < (cutR (cutL ((pParts (strip 45 l)).1 ++ (pParts (strip 45 l)).2.1))).length ∨
     1000 < (if hd45 (pParts (strip 45 l)).2.2.1 = true then -smallN (strip 45 (pParts (strip 45 l)).2.2.1) else smallN (strip 45 (pParts (strip 45 l)).2.2.1)) - (pParts (strip 45 l)).2.1.length + (cutL ((pParts (strip 45 l)).1 ++ (pParts (strip 45 l)).2.1)).length - (cutR (cutL ((pParts (strip 45 l)).1 ++ (pParts (strip 45 l)).2.1))).length ∨
     (if hd45 (pParts (strip 45 l)).2.2.1 = true then -smallN (strip 45 (pParts (strip 45 l)).2.2.1) else smallN (strip 45 (pParts (strip 45 l)).2.2.1)) - (pParts (strip 45 l)).2.1.length + (cutL ((pParts (strip 45 l)).1 ++ (pParts (strip 45 l)).2.1)).length - (cutR (cutL ((pParts (strip 45 l)).1 ++ (pParts (strip 45 l)).2.1))).length < -1000 then ({}, 5) else
  (⟨hd45 l, ba (cutR (cutL ((pParts (strip 45 l)).1 ++ (pParts (strip 45 l)).2.1))),
    (if hd45 (pParts (strip 45 l)).2.2.1 = true then -smallN (strip 45 (pParts (strip 45 l)).2.2.1) else smallN (strip 45 (pParts (strip 45 l)).2.2.1)) - (pParts (strip 45 l)).2.1.length + (cutL ((pParts (strip 45 l)).1 ++ (pParts (strip 45 l)).2.1)).length - (cutR (cutL ((pParts (strip 45 l)).1 ++ (pParts (strip 45 l)).2.1))).length⟩, 0)
/-- What the loop over a number's text has gathered. -/
theorem gathered {m : BL} (h : (pParts m).2.2.2 = true) (ng : Bool) : ∃ pt pw, nfold m ⟨ng, false, false, false, e0, 0, 0⟩ = ⟨ng, hd45 (pParts m).2.2.1, pt, pw, ba ((pParts m).1 ++ (pParts m).2.1), ((pParts m).2.1.length : Int), satL 0 (strip 45 (pParts m).2.2.1)⟩ ∧
    aD (strip 45 (pParts m).2.2.1) ∧ (pParts m).2.2.1 ≠ [] ∧ aD ((pParts m).1 ++ (pParts m).2.1) ∧ (pParts m).1 ≠ [] ∧ (pParts m).1.length + (pParts m).2.1.length ≤ m.length := by
  unfold pParts at h ⊢
  split at h
  · simp at h
  · rename_i hc
    rw [if_neg hc]
    cases hp : pFrac (m.dropWhile isD) with
    | none => rw [hp] at h; simp at h
    | some p =>
      obtain ⟨f, r⟩ := p
      rw [hp] at h
      simp only at h ⊢
      have hm := List.takeWhile_append_dropWhile (p := isD) (l := m)
      have hW := aD_tw m
      have hlen := congrArg List.length hm
      rw [List.length_append] at hlen
      have hWne : m.takeWhile isD ≠ [] := fun e => hc (.inl (by rw [e]; rfl))
      have he0 : e0.data.toList = [] := rfl
      have hb0 : ∀ l : BL, ba (e0.data.toList ++ l) = ba l := fun l => by rw [he0, List.nil_append]
      cases hd : m.dropWhile isD with
      | nil =>
        rw [hd] at hp hlen
        simp only [pFrac, Option.some.injEq, Prod.mk.injEq] at hp
        obtain ⟨rfl, rfl⟩ := hp
        obtain ⟨pw, h1, h2, h3⟩ := fold_pow h ng false (ba (m.takeWhile isD)) 0
        refine ⟨false, pw, ?_, h2, h3, by rw [List.append_nil]; exact hW, hWne, by simp at hlen ⊢; omega⟩
        conv => lhs; rw [← hm, hd, List.append_nil]
        rw [fold_dig _ _ _ _ _ _ _ hW, hb0, List.append_nil]
        simpa [nfold] using h1
      | cons b q =>
        rw [hd] at hp hlen
        simp only [pFrac] at hp
        split at hp
        · rename_i h46
          split at hp
          · cases hp
          · rename_i hq
            simp only [Option.some.injEq, Prod.mk.injEq] at hp
            obtain ⟨rfl, rfl⟩ := hp
            have hq2 := List.takeWhile_append_dropWhile (p := isD) (l := q)
            have hF := aD_tw q
            have hlen2 := congrArg List.length hq2
            rw [List.length_append] at hlen2
            obtain ⟨pw, h1, h2, h3⟩ := fold_pow h ng true (ba (m.takeWhile isD ++ q.takeWhile isD)) (q.takeWhile isD).length
            refine ⟨true, pw, ?_, h2, h3, fun c hcm => (List.mem_append.1 hcm).elim (hW c) (hF c), hWne, by simp at hlen; omega⟩
            have hdot : nstep b.toNat ⟨ng, false, false, false, ba (m.takeWhile isD), 0, 0⟩ = ⟨ng, false, true, false, ba (m.takeWhile isD), 0, 0⟩ := by
              simp only [nstep, Bool.false_eq_true, if_false]; rw [if_neg (by omega), if_pos h46]
            conv => lhs; rw [← hm, hd]
            show List.foldl _ _ _ = _
            rw [List.foldl_append, show List.foldl (fun t (b : UInt8) => nstep b.toNat t) ⟨ng, false, false, false, e0, 0, 0⟩ (m.takeWhile isD) = _ from fold_dig _ _ _ _ _ _ _ hW, hb0]
            rw [List.foldl_cons]
            simp only [Bool.false_eq_true, if_false, Int.add_zero]
            rw [hdot]
            conv => lhs; rw [← hq2]
            rw [List.foldl_append, show List.foldl (fun t (b : UInt8) => nstep b.toNat t) ⟨ng, false, true, false, ba (m.takeWhile isD), 0, 0⟩ (q.takeWhile isD) = _ from fold_dig _ _ _ _ _ _ _ hF, ba_toList]
            simpa [nfold] using h1
        · simp only [Option.some.injEq, Prod.mk.injEq] at hp
          obtain ⟨rfl, rfl⟩ := hp
          obtain ⟨pw, h1, h2, h3⟩ := fold_pow h ng false (ba (m.takeWhile isD)) 0
          refine ⟨false, pw, ?_, h2, h3, by rw [List.append_nil]; exact hW, hWne, by simp at hlen ⊢; omega⟩
          conv => lhs; rw [← hm, hd]
          show List.foldl _ _ _ = _
          rw [List.foldl_append, show List.foldl (fun t (b : UInt8) => nstep b.toNat t) ⟨ng, false, false, false, e0, 0, 0⟩ (m.takeWhile isD) = _ from fold_dig _ _ _ _ _ _ _ hW, hb0, List.append_nil]
          simpa [nfold] using h1
end Lg
namespace Lg
open Go
theorem bat_getD (d : ByteArray) (i : Nat) : bat d i = d.data.toList.getD i 0 := rfl
theorem bat_ba (l : BL) (i : Nat) : bat (ba l) i = l.getD i 0 := by rw [bat_getD, ba_toList]
theorem digs_aD {l : BL} (h : aD l) : digs (ba l) l.length := fun j hj => by
  unfold dig
  rw [bat_ba, List.getD_eq_getElem?_getD, List.getElem?_eq_getElem hj]
  exact (isD_iff _).1 (h _ (List.getElem_mem hj))
/-- A number of trimmed digits may be just if it isn't large. -/
theorem numMay_cut {l : BL} (hl : aD l) (hne : l ≠ []) (hh : ∀ b ∈ l.head?, b ≠ 48) (ng : Bool) (x : Int) :
    NumMay ⟨ng, ba (cutR l), x⟩ ↔ (cutR l).length ≤ 60 ∧ -1000 ≤ x ∧ x ≤ 1000 := by
  have hc : cutR l ≠ [] := fun e => hne ((cutR_nil hh).1 e)
  have hpos : 0 < (cutR l).length := List.length_pos_iff.2 hc
  have hne2 : ¬ ba (cutR l) = ⟨#[]⟩ := fun e => by
    have := congrArg ByteArray.size e
    rw [ba_size] at this
    change (cutR l).length = 0 at this
    omega
  have hsub : aD (cutR l) := fun b hb => by
    rw [cutR_pre] at hb
    exact hl b (List.mem_of_mem_take hb)
  have hfirst : (bat (ba (cutR l)) 0).toNat ≠ 48 := by
    rw [bat_ba]
    have h1 := cutR_head hc
    cases hk : cutR l with
    | nil => exact absurd hk hc
    | cons b r =>
      rw [hk] at h1
      have := hh b (by rw [← h1]; rfl)
      simp only [List.getD_cons_zero]
      exact fun e => this (UInt8.toNat_inj.1 e)
  have hlast : (bat (ba (cutR l)) ((ba (cutR l)).size - 1)).toNat ≠ 48 := by
    rw [bat_ba, ba_size]
    have h1 := cutR_last hc
    have h2 : (cutR l).getD ((cutR l).length - 1) 0 = (cutR l).getLast hc := by
      rw [List.getLast_eq_getElem, List.getD_eq_getElem?_getD, List.getElem?_eq_getElem (by omega)]; rfl
    rw [h2]
    exact fun e => h1 (UInt8.toNat_inj.1 e)
  unfold NumMay
  constructor
  · rintro (⟨h, _⟩ | ⟨_, _, h2, _, _, h3, h4⟩)
    · exact absurd h hne2
    · rw [ba_size] at h2; exact ⟨h2, h3, h4⟩
  · rintro ⟨h2, h3, h4⟩
    refine .inr ⟨hne2, ?_, by rw [ba_size]; exact h2, hfirst, hlast, h3, h4⟩
    show digs (ba (cutR l)) (ba (cutR l)).size
    rw [ba_size]; exact digs_aD hsub
theorem strip_len (c : Nat) (l : BL) : (strip c l).length ≤ l.length := by
  cases l with
  | nil => exact Nat.le_refl _
  | cons b r =>
    by_cases h : b.toNat = c
    · rw [strip_eq h]; simp
    · rw [strip_ne h]; exact Nat.le_refl _
/-- The reference's number is the program's. -/
theorem rNum_pNum (s : ByteArray) (hs : s.size ≤ 1000) : rNum s = pNum s.data.toList := by
  have hiff := rEnd_iff s
  have hlen : s.data.toList.length = s.size := Array.length_toList
  unfold rNum pNum
  by_cases hok : ¬ (pParts (strip 45 s.data.toList)).2.2.2 = true
  · have hf : (pParts (strip 45 s.data.toList)).2.2.2 = false := by simpa using hok
    rw [if_pos hf, if_pos (Decidable.byContradiction fun h => hok (hiff.1 h))]
  · have hok := Decidable.not_not.1 hok
    rw [if_neg (hiff.2 hok), if_neg (show ¬ (pParts (strip 45 s.data.toList)).2.2.2 = false by rw [hok]; simp)]
    -- the loop
    have hfold : ∃ pt pw, nloop s 0 nst0 = ⟨hd45 s.data.toList, hd45 (pParts (strip 45 s.data.toList)).2.2.1, pt, pw, ba ((pParts (strip 45 s.data.toList)).1 ++ (pParts (strip 45 s.data.toList)).2.1), ((pParts (strip 45 s.data.toList)).2.1.length : Int), satL 0 (strip 45 (pParts (strip 45 s.data.toList)).2.2.1)⟩ := by
      rw [nloop_fold, List.drop_zero]
      cases hl : s.data.toList with
      | nil => rw [hl] at hok; simp [strip, pParts] at hok
      | cons b r =>
        rw [hl] at hok
        by_cases hb : b.toNat = 45
        · have hb45 : b = 45 := UInt8.toNat_inj.1 hb
          obtain ⟨pt, pw, h1, _⟩ := gathered hok true
          refine ⟨pt, pw, ?_⟩
          rw [strip_eq hb] at h1 ⊢
          have hst : nstep b.toNat nst0 = ⟨true, false, false, false, e0, 0, 0⟩ := by
            simp only [nst0, nstep, Bool.false_eq_true, if_false]; rw [if_pos hb]
          rw [List.foldl_cons, hst]
          have hh : hd45 (b :: r) = true := by simp [hd45, hb45]
          rw [hh]; exact h1
        · obtain ⟨pt, pw, h1, _⟩ := gathered hok false
          refine ⟨pt, pw, ?_⟩
          rw [strip_ne hb] at h1 ⊢
          have hh : hd45 (b :: r) = false := by
            simp only [hd45, beq_eq_false_iff_ne, ne_eq]; exact fun e => hb (by rw [e]; rfl)
          rw [hh]; exact h1
    obtain ⟨_, _, _, hX, hXne, hD, hWne, hDl⟩ := gathered hok true
    obtain ⟨pt, pw, hT⟩ := hfold
    rw [hT]
    generalize pParts (strip 45 s.data.toList) = P at *
    obtain ⟨W, F, E, ok⟩ := P
    simp only at *
    generalize hDD : W ++ F = D at *
    have hDsz : (ba D).size = D.length := ba_size D
    have hstripl : (strip 45 s.data.toList).length ≤ s.size := by
      rw [← hlen]; exact strip_len 45 _
    have hDn : D.length = W.length + F.length := by rw [← hDD]; simp
    have hnF : nF ⟨hd45 s.data.toList, hd45 E, pt, pw, ba D, F.length, satL 0 (strip 45 E)⟩ = (D.takeWhile (· == 48)).length := by
      unfold nF; rw [fz_list, ba_toList]; simp
    have hfl : (D.takeWhile (· == 48)).length ≤ D.length := (List.takeWhile_sublist _).length_le
    have hdrop : D.drop (D.takeWhile (· == 48)).length = cutL D := (dropWhile_drop' _ D).symm
    have hnL : nL ⟨hd45 s.data.toList, hd45 E, pt, pw, ba D, F.length, satL 0 (strip 45 E)⟩ = (D.takeWhile (· == 48)).length + (cutR (cutL D)).length := by
      unfold nL; rw [hnF]
      simp only
      rw [lz_list _ _ _ (by rw [hDsz]; exact hfl) (Nat.le_refl _), ba_toList, hDsz, List.take_length, hdrop]
    have hcl : (cutL D).length = D.length - (D.takeWhile (· == 48)).length := by rw [← hdrop, List.length_drop]
    have hcr := cutR_len (cutL D)
    have hnil := cutR_nil (cutL_head D)
    rw [hnF, hnL]
    by_cases hall : cutL D = []
    · rw [if_pos (by rw [hall]; rfl), if_pos hall]
    · have hcne : cutR (cutL D) ≠ [] := fun e => hall (hnil.1 e)
      have hcpos : 0 < (cutR (cutL D)).length := List.length_pos_iff.2 hcne
      rw [if_neg (by omega), if_neg hall]
      have hofd : (ba D).extract (D.takeWhile (· == 48)).length ((D.takeWhile (· == 48)).length + (cutR (cutL D)).length) = ba (cutR (cutL D)) := by
        apply ba_ext
        rw [ba_toList]
        have : ((ba D).extract (D.takeWhile (· == 48)).length ((D.takeWhile (· == 48)).length + (cutR (cutL D)).length)).data.toList = (D.drop (D.takeWhile (· == 48)).length).take (cutR (cutL D)).length := by
          simp [ByteArray.data_extract, List.extract_eq_take_drop, ba]
        rw [this, hdrop, ← cutR_pre]
      have hsat := smallN_sat hX
      have hof : nOf ⟨hd45 s.data.toList, hd45 E, pt, pw, ba D, F.length, satL 0 (strip 45 E)⟩ = ⟨hd45 s.data.toList, ba (cutR (cutL D)), (if hd45 E = true then -satL 0 (strip 45 E) else satL 0 (strip 45 E)) - F.length + ((cutL D).length - (cutR (cutL D)).length)⟩ := by
        unfold nOf
        rw [hnF, hnL]
        simp only [hofd, nsgn, hDsz]
        congr 1
        omega
      rw [hof]
      have hmay := numMay_cut (l := cutL D) (aD_dw (l := D) hD) hall (cutL_head D) (hd45 s.data.toList) ((if hd45 E = true then -satL 0 (strip 45 E) else satL 0 (strip 45 E)) - F.length + ((cutL D).length - (cutR (cutL D)).length))
      by_cases hbig : satL 0 (strip 45 E) < 1000000
      · have he : smallN (strip 45 E) = satL 0 (strip 45 E) := by omega
        rw [he]
        have hx : ∀ y : Int, y - F.length + (cutL D).length - (cutR (cutL D)).length = y - F.length + ((cutL D).length - (cutR (cutL D)).length) := fun y => by omega
        rw [hx]
        generalize (if hd45 E = true then -satL 0 (strip 45 E) else satL 0 (strip 45 E)) = z at *
        by_cases hm : NumMay ⟨hd45 s.data.toList, ba (cutR (cutL D)), z - F.length + ((cutL D).length - (cutR (cutL D)).length)⟩
        · have := hmay.1 hm
          rw [if_pos hm, if_neg (by omega)]
        · have := mt hmay.2 hm
          rw [if_neg hm, if_pos (by omega)]
      · have hS : satL 0 (strip 45 E) = 1000000 := by omega
        have hb2 : 1000000 ≤ smallN (strip 45 E) := by omega
        have hm : ¬ NumMay ⟨hd45 s.data.toList, ba (cutR (cutL D)), (if hd45 E = true then -satL 0 (strip 45 E) else satL 0 (strip 45 E)) - F.length + ((cutL D).length - (cutR (cutL D)).length)⟩ := fun h => by
          have := hmay.1 h
          by_cases hh : hd45 E = true
          · rw [if_pos hh] at this; omega
          · rw [if_neg hh] at this; omega
        rw [if_neg hm]
        clear hof hmay hm
        have hl1 : (60 < (cutR (cutL D)).length ∨
     1000 < (if hd45 E = true then -smallN (strip 45 E) else smallN (strip 45 E)) - F.length + (cutL D).length - (cutR (cutL D)).length ∨
     (if hd45 E = true then -smallN (strip 45 E) else smallN (strip 45 E)) - F.length + (cutL D).length - (cutR (cutL D)).length < -1000) := by
          by_cases hh : hd45 E = true
          · rw [if_pos hh]; omega
          · rw [if_neg hh]; omega
        rw [if_pos hl1]
end Lg
namespace Lg
open Go
theorem ba_inj {a b : BL} : ba a = ba b ↔ a = b := ⟨fun h => by rw [← ba_toList a, h, ba_toList], fun h => by rw [h]⟩
theorem ba_nil {a : BL} : ba a = ⟨#[]⟩ ↔ a = [] := ba_inj (b := [])
theorem ba_ex (l : BL) (i j : Nat) : (ba l).extract i j = ba ((l.take j).drop i) := by
  apply ba_ext
  rw [ba_toList]
  simp [ByteArray.data_extract, List.extract_eq_take_drop, ba, List.drop_take]
theorem ba_app (a b : BL) : ba a ++ ba b = ba (a ++ b) := ba_ext (by simp [ba])
theorem ba_pre (l : BL) (n : Nat) : (ba l).extract 0 n = ba (l.take n) := by rw [ba_ex]; rfl
theorem ba_suf (l : BL) (n : Nat) : (ba l).extract n (ba l).size = ba (l.drop n) := by rw [ba_ex, ba_size, List.take_length]
theorem ba_suf1 (b : UInt8) (l : BL) : (ba (b :: l)).extract 1 (ba (b :: l)).size = ba l := ba_suf _ 1
theorem tw_take (l : BL) : l.take (l.takeWhile isD).length = l.takeWhile isD := by
  have h := List.takeWhile_append_dropWhile (p := isD) (l := l)
  conv => lhs; arg 2; rw [← h]
  rw [List.take_left']; rfl
theorem runl_ba (l : BL) : runl (ba l) 0 = (l.takeWhile isD).length := by rw [runl_tw, ba_toList]; rfl
theorem hd45_strip (l : BL) : (strip 45 l ≠ l) ↔ hd45 l = true := by
  cases l with
  | nil => simp [strip, hd45]
  | cons b r =>
    by_cases h : b.toNat = 45
    · have hb : b = 45 := UInt8.toNat_inj.1 h
      rw [strip_eq h]
      simp only [hd45, hb, beq_self_eq_true, iff_true]
      intro e; have := congrArg List.length e; simp at this
    · have hb : ¬ b = 45 := fun e => h (by rw [e]; rfl)
      rw [strip_ne h]; simp [hd45, hb]
theorem ex1 (b : UInt8) (r : BL) (c : UInt8) : ((ba (b :: r)).extract 0 1 = (⟨#[c]⟩ : ByteArray)) ↔ b.toNat = c.toNat := by
  rw [ba_pre]
  have : (⟨#[c]⟩ : ByteArray) = ba [c] := rfl
  rw [this, ba_inj]
  simp [UInt8.toNat_inj]
def hdC (c : UInt8) : BL → Bool
  | [] => false
  | b :: _ => decide (b.toNat = c.toNat)
theorem bat0 (b : UInt8) (r : BL) : bat (ba (b :: r)) 0 = b := bat_ba _ 0
theorem cutL_cons (b : UInt8) (r : BL) : cutL (b :: r) = if b = 48 then cutL r else b :: r := by
  unfold cutL
  by_cases h : b = 48
  · simp [h]
  · have : (b == 48) = false := by simpa using h
    simp [List.dropWhile_cons, this, h]
theorem cutR_take {l : BL} (h : 0 < l.length) : cutR l = if l.getD (l.length - 1) 0 = 48 then cutR (l.take (l.length - 1)) else l := by
  have h1 : l = l.take (l.length - 1) ++ [l.getD (l.length - 1) 0] := by
    have := take_snoc (l := l) (k := l.length - 1) (by omega)
    rw [show l.length - 1 + 1 = l.length by omega, List.take_length] at this
    exact this
  conv => lhs; rw [h1]
  rw [cutR_snoc]
  split
  · rfl
  · exact h1.symm
end Lg
set_option maxRecDepth 20000
set_option maxHeartbeats 4000000
namespace Lg
open Go Go.Proofs Go.RowKit
variable [GLay] 


theorem hasPre_c (l : BL) (c : UInt8) (σ : List AO) (hl : l.length ≤ 1000000) : ACalls Tryd.prog 47 [.str (ba l), .str ⟨#[c]⟩] σ (Ret (.bool (hdC c l)) σ) := by
  refine ACalls_body Tryd.func47 rfl Tryd.ntmps47 (res1 Tryd.results47) (Nat.le_of_ble_eq_true rfl) (fun hcl hal => ?_)
  have hbs : (ba l).size = l.length := ba_size l
  have hc1 : (ByteArray.mk #[c]).size = 1 := rfl
  have hne : l.length = 0 → l = [] := List.eq_nil_of_length_eq_zero
  refine AWp_seq ?_
  -- region 0 strings.go:16
  refine AWp_regL ?_
  refine st rfl rfl rfl (op_assignO rfl rfl) ?_
  refine AOps_nil ?_
  refine AWp_seq ?_
  -- region 1 strings.go:17
  refine AWp_regL ?_
  refine st rfl rfl rfl (op_moveO rfl rfl) ?_
  refine st rfl rfl rfl (op_lenStr rfl rfl Tryd.underlying9 rfl) ?_
  refine st rfl rfl rfl (op_moveO rfl rfl) ?_
  refine st rfl rfl rfl (op_lenStr rfl rfl Tryd.underlying9 rfl) ?_
  refine st rfl rfl rfl (op_geq rfl rfl rfl) ?_
  refine st rfl rfl rfl (op_moveO rfl rfl) ?_
  refine AOps_split 10 rfl (fun h1 => ?_) (fun h1 => ?_)
  · rw [h1]; (try simp only [decide_eq_true_eq, decide_eq_false_iff_not, Bool.not_eq_true', Bool.not_eq_false', Int.not_lt, Int.not_le, Bool.not_true, Bool.not_false, Int.toNat_natCast, bne_iff_ne, beq_iff_eq, beq_eq_false_iff_ne, ne_eq, Decidable.not_not] at h1)
    obtain ⟨b, r, rfl⟩ : ∃ b r, l = b :: r := by cases l with | nil => (have : (ba []).size = 0 := rfl; omega) | cons b r => exact ⟨b, r, rfl⟩
    refine stG rfl rfl rfl rfl rfl rfl (op_moveO rfl rfl) ?_
    refine stG rfl rfl rfl rfl rfl rfl (op_moveO rfl rfl) ?_
    refine stG rfl rfl rfl rfl rfl rfl (op_lenStr rfl rfl Tryd.underlying9 rfl) ?_
    refine stG rfl rfl rfl rfl rfl rfl (op_slice_str _ _ rfl Tryd.underlying9 rfl (by first | exact ⟨_, rfl⟩ | rfl) (by first | exact ⟨_, rfl⟩ | rfl) (by omega) (by omega) (by omega)) ?_
    refine stG rfl rfl rfl rfl rfl rfl (op_moveO rfl rfl) ?_
    refine stG rfl rfl rfl rfl rfl rfl (op_seql rfl rfl rfl) ?_
    refine st rfl rfl rfl (op_pickTO rfl rfl rfl) ?_
    refine st rfl rfl rfl (op_assignO rfl rfl) ?_
    refine AOps_nil ?_
    refine AWp_ret ?_
    (try simp only [blockQ, thenQ])
    refine ResQ_10 rfl hcl trivial (Ret_of ?_)
    congr 1; have := ex1 b r c; simp only [hdC]; exact decide_eq_decide.2 this
  · rw [h1]; (try simp only [decide_eq_true_eq, decide_eq_false_iff_not, Bool.not_eq_true', Bool.not_eq_false', Int.not_lt, Int.not_le, Bool.not_true, Bool.not_false, Int.toNat_natCast, bne_iff_ne, beq_iff_eq, beq_eq_false_iff_ne, ne_eq, Decidable.not_not] at h1)
    refine stS rfl rfl rfl (.inl rfl) rfl rfl ?_
    refine stS rfl rfl rfl (.inl rfl) rfl rfl ?_
    refine stS rfl rfl rfl (.inl rfl) rfl rfl ?_
    refine stS rfl rfl rfl (.inl rfl) rfl rfl ?_
    refine stS rfl rfl rfl (.inl rfl) rfl rfl ?_
    refine stS rfl rfl rfl (.inl rfl) rfl rfl ?_
    refine st rfl rfl rfl (op_pickFO rfl rfl rfl) ?_
    refine st rfl rfl rfl (op_assignO rfl rfl) ?_
    refine AOps_nil ?_
    refine AWp_ret ?_
    (try simp only [blockQ, thenQ])
    refine ResQ_10 rfl hcl trivial (Ret_of ?_)
    rw [hne (by omega)]; rfl

theorem tHasPre_c (l : BL) (c : UInt8) (σ : List AO) (hl : l.length ≤ 1000000) : ACalls Tryd.prog 33 [.str (ba l), .str ⟨#[c]⟩] σ (Ret (.bool (hdC c l)) σ) := by
  refine ACalls_body Tryd.func33 rfl Tryd.ntmps33 (res1 Tryd.results33) (Nat.le_of_ble_eq_true rfl) (fun hcl hal => ?_)
  refine AWp_seq ?_
  -- region 0 strings.go:501
  refine AWp_regL ?_
  refine st rfl rfl rfl (op_assignO rfl rfl) ?_
  refine AOps_nil ?_
  refine AWp_seq ?_
  -- region 1 strings.go:502
  refine AWp_regL ?_
  refine st rfl rfl rfl (op_moveO rfl rfl) ?_
  refine st rfl rfl rfl (op_moveO rfl rfl) ?_
  refine st rfl rfl rfl (op_callF rfl rfl rfl Tryd.func47 rfl rfl (hasPre_c l c _ hl)) ?_
  refine st rfl rfl rfl (op_assignO rfl rfl) ?_
  refine AOps_nil ?_
  refine AWp_ret ?_
  (try simp only [blockQ, thenQ])
  exact ResQ_10 rfl hcl (by simp [AV.lt, AV.ltL]) ⟨rfl, rfl⟩

theorem trimPre_c (l : BL) (c : UInt8) (σ : List AO) (hl : l.length ≤ 1000000) : ACalls Tryd.prog 31 [.str (ba l), .str ⟨#[c]⟩] σ (Ret (.str (ba (strip c.toNat l))) σ) := by
  refine ACalls_body Tryd.func31 rfl Tryd.ntmps31 (res1 Tryd.results31) (Nat.le_of_ble_eq_true rfl) (fun hcl hal => ?_)
  have hbs : (ba l).size = l.length := ba_size l
  have hc1 : (ByteArray.mk #[c]).size = 1 := rfl
  refine AWp_seq ?_
  -- region 0 strings.go:101
  refine AWp_regL ?_
  refine st rfl rfl rfl (op_assignO rfl rfl) ?_
  refine AOps_nil ?_
  refine AWp_seq ?_
  refine AWp_seq ?_
  -- region 1 strings.go:102
  refine AWp_regL ?_
  refine st rfl rfl rfl (op_moveO rfl rfl) ?_
  refine st rfl rfl rfl (op_moveO rfl rfl) ?_
  refine st rfl rfl rfl (op_callF rfl rfl rfl Tryd.func47 rfl rfl (hasPre_c l c _ hl)) ?_
  refine AOps_nil ?_
  refine AWp_cond rfl (fun h1 => ?_) (fun h1 => ?_)
  · (try rw [h1]); (try simp only [decide_eq_true_eq, decide_eq_false_iff_not, Bool.not_eq_true', Bool.not_eq_false', Int.not_lt, Int.not_le, Bool.not_true, Bool.not_false, Int.toNat_natCast, bne_iff_ne, beq_iff_eq, beq_eq_false_iff_ne, ne_eq, Decidable.not_not] at h1)
    obtain ⟨b, r, rfl⟩ : ∃ b r, l = b :: r := by cases l with | nil => cases h1 | cons b r => exact ⟨b, r, rfl⟩
    have hb : b.toNat = c.toNat := by simpa [hdC] using h1
    have hrl : (b :: r).length = r.length + 1 := rfl
    refine AWp_seq ?_
    -- region 2 strings.go:103
    refine AWp_regL ?_
    refine st rfl rfl rfl (op_moveO rfl rfl) ?_
    refine st rfl rfl rfl (op_moveO rfl rfl) ?_
    refine st rfl rfl rfl (op_lenStr rfl rfl Tryd.underlying9 rfl) ?_
    refine st rfl rfl rfl (op_slice_str _ _ rfl Tryd.underlying9 rfl (by first | exact ⟨_, rfl⟩ | rfl) (by first | exact ⟨_, rfl⟩ | rfl) (by omega) (by omega) (by omega)) ?_
    refine st rfl rfl rfl (op_assignO rfl rfl) ?_
    refine AOps_nil ?_
    refine AWp_ret ?_
    (try simp only [blockQ, thenQ])
    rw [strip_eq hb]
    exact ResQ_10 rfl hcl trivial (Ret_of (congrArg AV.str (ba_suf1 b r)))
  · (try rw [h1]); (try simp only [decide_eq_true_eq, decide_eq_false_iff_not, Bool.not_eq_true', Bool.not_eq_false', Int.not_lt, Int.not_le, Bool.not_true, Bool.not_false, Int.toNat_natCast, bne_iff_ne, beq_iff_eq, beq_eq_false_iff_ne, ne_eq, Decidable.not_not] at h1)
    have hs : strip c.toNat l = l := by cases l with | nil => rfl | cons b r => exact strip_ne (by simpa [hdC] using h1)
    refine AWp_skip ?_
    refine AWp_seq ?_
    -- region 3 strings.go:105
    refine AWp_regL ?_
    refine st rfl rfl rfl (op_moveO rfl rfl) ?_
    refine st rfl rfl rfl (op_assignO rfl rfl) ?_
    refine AOps_nil ?_
    refine AWp_ret ?_
    (try simp only [blockQ, thenQ])
    rw [hs]
    exact ResQ_10 rfl hcl trivial (Ret_of rfl)

theorem tTrimPre_c (l : BL) (c : UInt8) (σ : List AO) (hl : l.length ≤ 1000000) : ACalls Tryd.prog 17 [.str (ba l), .str ⟨#[c]⟩] σ (Ret (.str (ba (strip c.toNat l))) σ) := by
  refine ACalls_body Tryd.func17 rfl Tryd.ntmps17 (res1 Tryd.results17) (Nat.le_of_ble_eq_true rfl) (fun hcl hal => ?_)
  refine AWp_seq ?_
  -- region 0 strings.go:1120
  refine AWp_regL ?_
  refine st rfl rfl rfl (op_assignO rfl rfl) ?_
  refine AOps_nil ?_
  refine AWp_seq ?_
  -- region 1 strings.go:1121
  refine AWp_regL ?_
  refine st rfl rfl rfl (op_moveO rfl rfl) ?_
  refine st rfl rfl rfl (op_moveO rfl rfl) ?_
  refine st rfl rfl rfl (op_callF rfl rfl rfl Tryd.func31 rfl rfl (trimPre_c l c _ hl)) ?_
  refine st rfl rfl rfl (op_assignO rfl rfl) ?_
  refine AOps_nil ?_
  refine AWp_ret ?_
  (try simp only [blockQ, thenQ])
  exact ResQ_10 rfl hcl (by simp [AV.lt, AV.ltL]) ⟨rfl, rfl⟩

theorem trimLB_c (l : BL) (σ : List AO) (hl : l.length ≤ 1000000) : ACalls Tryd.prog 34 [.str (ba l), .int .u8 48] σ (Ret (.str (ba (cutL l))) σ) := by
  refine ACalls_body Tryd.func34 rfl Tryd.ntmps34 (res1 Tryd.results34) (Nat.le_of_ble_eq_true rfl) (fun hcl hal => ?_)
  refine AWp_seq ?_
  -- region 0 strings.go:1010
  refine AWp_regL ?_
  refine st rfl rfl rfl (op_assignO rfl rfl) ?_
  refine AOps_nil ?_
  refine AWp_seq ?_
  refine AWp_block ?_
  -- loop 0 LIVE 0:param 1:param 4:assign
  refine AWp_loop (ι := BL) (fun m => cutL m = cutL l ∧ m.length ≤ l.length) (fun m => ⟨[], [(0, .str (ba m)), (1, .int .u8 48)]⟩) (fun m => σ) (fun m => m.length) (l) (⟨rfl, Nat.le_refl _⟩) ?_ rfl (fun m hm => ?_)
  · exact ⟨rfl, rfl, rfl, trivial⟩
  obtain ⟨hm1, hm2⟩ := hm
  have hbs : (ba m).size = m.length := ba_size m
  refine AWp_seq ?_
  refine AWp_seq ?_
  -- region 1 strings.go:1011
  refine AWp_regL ?_
  refine st rfl rfl rfl (op_moveO rfl rfl) ?_
  refine st rfl rfl rfl (op_lenStr rfl rfl Tryd.underlying9 rfl) ?_
  refine st rfl rfl rfl (op_gtr rfl rfl rfl) ?_
  refine st rfl rfl rfl (op_moveO rfl rfl) ?_
  refine AOps_split 8 rfl (fun h1 => ?_) (fun h1 => ?_)
  · rw [h1]; (try simp only [decide_eq_true_eq, decide_eq_false_iff_not, Bool.not_eq_true', Bool.not_eq_false', Int.not_lt, Int.not_le, Bool.not_true, Bool.not_false, Int.toNat_natCast, bne_iff_ne, beq_iff_eq, beq_eq_false_iff_ne, ne_eq, Decidable.not_not] at h1)
    refine stG rfl rfl rfl rfl rfl rfl (op_moveO rfl rfl) ?_
    refine stG rfl rfl rfl rfl rfl rfl (op_index_strB rfl Tryd.underlying9 rfl rfl (by omega) (by omega)) ?_
    refine stG rfl rfl rfl rfl rfl rfl (op_moveO rfl rfl) ?_
    refine stG rfl rfl rfl rfl rfl rfl (op_eql rfl rfl rfl) ?_
    refine st rfl rfl rfl (op_pickTO rfl rfl rfl) ?_
    refine AOps_nil ?_
    refine AWp_cond rfl (fun h2 => ?_) (fun h2 => ?_)
    · (try rw [h2]); (try simp only [decide_eq_true_eq, decide_eq_false_iff_not, Bool.not_eq_true', Bool.not_eq_false', Int.not_lt, Int.not_le, Bool.not_true, Bool.not_false, Int.toNat_natCast, bne_iff_ne, beq_iff_eq, beq_eq_false_iff_ne, ne_eq, Decidable.not_not] at h2)
      refine AWp_skip ?_
      refine AWp_block ?_
      -- region 2 strings.go:1012
      refine AWp_regL ?_
      refine st rfl rfl rfl (op_moveO rfl rfl) ?_
      refine st rfl rfl rfl (op_slice_str _ _ rfl Tryd.underlying9 rfl (by first | exact ⟨_, rfl⟩ | rfl) (by first | exact ⟨_, rfl⟩ | rfl) (by omega) (by omega) (by omega)) ?_
      refine st rfl rfl rfl (op_assignO rfl rfl) ?_
      refine AOps_nil ?_
      obtain ⟨b, r, rfl⟩ : ∃ b r, m = b :: r := by cases m with | nil => (have : (ba []).size = 0 := rfl; omega) | cons b r => exact ⟨b, r, rfl⟩
      have hb : b = 48 := by rw [Int.toNat_zero, bat0] at h2; exact UInt8.toNat_inj.1 (show b.toNat = 48 by omega)
      refine ⟨r, σ.length, ⟨by rw [← hm1, cutL_cons, if_pos hb], by simp at hm2; omega⟩, by simp, Nat.le_refl _, ⟨rfl, ?_, rfl, trivial⟩, hcl, ?_, List.take_length⟩
      · exact congrArg AV.str (ba_suf1 b r)
      · simp [ltE, AV.lt]
    · (try rw [h2]); (try simp only [decide_eq_true_eq, decide_eq_false_iff_not, Bool.not_eq_true', Bool.not_eq_false', Int.not_lt, Int.not_le, Bool.not_true, Bool.not_false, Int.toNat_natCast, bne_iff_ne, beq_iff_eq, beq_eq_false_iff_ne, ne_eq, Decidable.not_not] at h2)
      refine AWp_exit ?_
      refine AWp_seq ?_
      -- region 3 strings.go:1014
      refine AWp_regL ?_
      refine st rfl rfl rfl (op_moveO rfl rfl) ?_
      refine st rfl rfl rfl (op_assignO rfl rfl) ?_
      refine AOps_nil ?_
      refine AWp_ret ?_
      (try simp only [blockQ, thenQ])
      have hfin : cutL l = m := by
        rw [← hm1]
        cases m with
        | nil => rfl
        | cons b r =>
          have hlen : (b :: r).length = r.length + 1 := rfl
          first | (exfalso; omega; done) | (rw [cutL_cons, if_neg (fun e => by subst e; rw [Int.toNat_zero, bat0] at h2; exact h2 rfl)])
      rw [hfin]
      exact ResQ_10 rfl hcl trivial (Ret_of rfl)
  · rw [h1]; (try simp only [decide_eq_true_eq, decide_eq_false_iff_not, Bool.not_eq_true', Bool.not_eq_false', Int.not_lt, Int.not_le, Bool.not_true, Bool.not_false, Int.toNat_natCast, bne_iff_ne, beq_iff_eq, beq_eq_false_iff_ne, ne_eq, Decidable.not_not] at h1)
    refine stS rfl rfl rfl (.inl rfl) rfl rfl ?_
    refine stS rfl rfl rfl (.inl rfl) rfl rfl ?_
    refine stS rfl rfl rfl (.inl rfl) rfl rfl ?_
    refine stS rfl rfl rfl (.inl rfl) rfl rfl ?_
    refine st rfl rfl rfl (op_pickFO rfl rfl rfl) ?_
    refine AOps_nil ?_
    refine AWp_condF rfl ?_
    refine AWp_exit ?_
    refine AWp_seq ?_
    -- region 3 strings.go:1014
    refine AWp_regL ?_
    refine st rfl rfl rfl (op_moveO rfl rfl) ?_
    refine st rfl rfl rfl (op_assignO rfl rfl) ?_
    refine AOps_nil ?_
    refine AWp_ret ?_
    (try simp only [blockQ, thenQ])
    have hfin : cutL l = m := by
      rw [← hm1]
      cases m with
      | nil => rfl
      | cons b r =>
        have hlen : (b :: r).length = r.length + 1 := rfl
        first | (exfalso; omega; done) | (rw [cutL_cons, if_neg (fun e => by subst e; rw [Int.toNat_zero, bat0] at h2; exact h2 rfl)])
    rw [hfin]
    exact ResQ_10 rfl hcl trivial (Ret_of rfl)

theorem trimRB_c (l : BL) (σ : List AO) (hl : l.length ≤ 1000000) : ACalls Tryd.prog 38 [.str (ba l), .int .u8 48] σ (Ret (.str (ba (cutR l))) σ) := by
  refine ACalls_body Tryd.func38 rfl Tryd.ntmps38 (res1 Tryd.results38) (Nat.le_of_ble_eq_true rfl) (fun hcl hal => ?_)
  refine AWp_seq ?_
  -- region 0 strings.go:1055
  refine AWp_regL ?_
  refine st rfl rfl rfl (op_assignO rfl rfl) ?_
  refine AOps_nil ?_
  refine AWp_seq ?_
  refine AWp_block ?_
  -- loop 0 LIVE 0:param 1:param 4:assign
  refine AWp_loop (ι := BL) (fun m => cutR m = cutR l ∧ m.length ≤ l.length) (fun m => ⟨[], [(0, .str (ba m)), (1, .int .u8 48)]⟩) (fun m => σ) (fun m => m.length) (l) (⟨rfl, Nat.le_refl _⟩) ?_ rfl (fun m hm => ?_)
  · exact ⟨rfl, rfl, rfl, trivial⟩
  obtain ⟨hm1, hm2⟩ := hm
  have hbs : (ba m).size = m.length := ba_size m
  refine AWp_seq ?_
  refine AWp_seq ?_
  -- region 1 strings.go:1056
  refine AWp_regL ?_
  refine st rfl rfl rfl (op_moveO rfl rfl) ?_
  refine st rfl rfl rfl (op_lenStr rfl rfl Tryd.underlying9 rfl) ?_
  refine st rfl rfl rfl (op_gtr rfl rfl rfl) ?_
  refine st rfl rfl rfl (op_moveO rfl rfl) ?_
  refine AOps_split 8 rfl (fun h1 => ?_) (fun h1 => ?_)
  · rw [h1]; (try simp only [decide_eq_true_eq, decide_eq_false_iff_not, Bool.not_eq_true', Bool.not_eq_false', Int.not_lt, Int.not_le, Bool.not_true, Bool.not_false, Int.toNat_natCast, tm1, bne_iff_ne, beq_iff_eq, beq_eq_false_iff_ne, ne_eq, Decidable.not_not] at h1)
    refine stG rfl rfl rfl rfl rfl rfl (op_moveO rfl rfl) ?_
    refine stG rfl rfl rfl rfl rfl rfl (op_moveO rfl rfl) ?_
    refine stG rfl rfl rfl rfl rfl rfl (op_lenStr rfl rfl Tryd.underlying9 rfl) ?_
    refine stG rfl rfl rfl rfl rfl rfl (op_sub64 rfl rfl rfl (by omega) (by omega)) ?_
    refine stG rfl rfl rfl rfl rfl rfl (op_index_strB rfl Tryd.underlying9 rfl rfl (by omega) (by omega)) ?_
    refine stG rfl rfl rfl rfl rfl rfl (op_moveO rfl rfl) ?_
    refine stG rfl rfl rfl rfl rfl rfl (op_eql rfl rfl rfl) ?_
    refine st rfl rfl rfl (op_pickTO rfl rfl rfl) ?_
    refine AOps_nil ?_
    refine AWp_cond rfl (fun h2 => ?_) (fun h2 => ?_)
    · (try rw [h2]); (try simp only [decide_eq_true_eq, decide_eq_false_iff_not, Bool.not_eq_true', Bool.not_eq_false', Int.not_lt, Int.not_le, Bool.not_true, Bool.not_false, Int.toNat_natCast, tm1, bne_iff_ne, beq_iff_eq, beq_eq_false_iff_ne, ne_eq, Decidable.not_not] at h2)
      refine AWp_skip ?_
      refine AWp_block ?_
      -- region 2 strings.go:1057
      refine AWp_regL ?_
      refine st rfl rfl rfl (op_moveO rfl rfl) ?_
      refine st rfl rfl rfl (op_moveO rfl rfl) ?_
      refine st rfl rfl rfl (op_lenStr rfl rfl Tryd.underlying9 rfl) ?_
      refine st rfl rfl rfl (op_sub64 rfl rfl rfl (by omega) (by omega)) ?_
      refine st rfl rfl rfl (op_slice_str _ _ rfl Tryd.underlying9 rfl (by first | exact ⟨_, rfl⟩ | rfl) (by first | exact ⟨_, rfl⟩ | rfl) (by omega) (by omega) (by omega)) ?_
      refine st rfl rfl rfl (op_assignO rfl rfl) ?_
      refine AOps_nil ?_
      have hb : m.getD (m.length - 1) 0 = 48 := by rw [hbs, bat_ba] at h2; exact UInt8.toNat_inj.1 (show (m.getD (m.length - 1) 0).toNat = 48 by omega)
      refine ⟨m.take (m.length - 1), σ.length, ⟨by rw [← hm1, cutR_take (l := m) (by omega), if_pos hb], by rw [List.length_take]; omega⟩, by rw [List.length_take]; omega, Nat.le_refl _, ⟨rfl, ?_, rfl, trivial⟩, hcl, ?_, List.take_length⟩
      · rw [← ba_pre]; show AV.str ((ba m).extract (0 : Int).toNat (((ba m).size : Int) - 1).toNat) = _; rw [tm1, hbs]; rfl
      · simp [ltE, AV.lt]
    · (try rw [h2]); (try simp only [decide_eq_true_eq, decide_eq_false_iff_not, Bool.not_eq_true', Bool.not_eq_false', Int.not_lt, Int.not_le, Bool.not_true, Bool.not_false, Int.toNat_natCast, tm1, bne_iff_ne, beq_iff_eq, beq_eq_false_iff_ne, ne_eq, Decidable.not_not] at h2)
      refine AWp_exit ?_
      refine AWp_seq ?_
      -- region 3 strings.go:1059
      refine AWp_regL ?_
      refine st rfl rfl rfl (op_moveO rfl rfl) ?_
      refine st rfl rfl rfl (op_assignO rfl rfl) ?_
      refine AOps_nil ?_
      refine AWp_ret ?_
      (try simp only [blockQ, thenQ])
      have hfin : cutR l = m := by
        rw [← hm1]
        cases hml : m with
        | nil => rfl
        | cons b r =>
          rw [← hml]
          have hlen : m.length = r.length + 1 := by rw [hml]; rfl
          first | (exfalso; omega; done) | (rw [cutR_take (l := m) (by omega), if_neg (fun e => by rw [hbs, bat_ba, e] at h2; exact h2 rfl)])
      rw [hfin]
      exact ResQ_10 rfl hcl trivial (Ret_of rfl)
  · rw [h1]; (try simp only [decide_eq_true_eq, decide_eq_false_iff_not, Bool.not_eq_true', Bool.not_eq_false', Int.not_lt, Int.not_le, Bool.not_true, Bool.not_false, Int.toNat_natCast, tm1, bne_iff_ne, beq_iff_eq, beq_eq_false_iff_ne, ne_eq, Decidable.not_not] at h1)
    refine stS rfl rfl rfl (.inl rfl) rfl rfl ?_
    refine stS rfl rfl rfl (.inl rfl) rfl rfl ?_
    refine stS rfl rfl rfl (.inl rfl) rfl rfl ?_
    refine stS rfl rfl rfl (.inl rfl) rfl rfl ?_
    refine stS rfl rfl rfl (.inl rfl) rfl rfl ?_
    refine stS rfl rfl rfl (.inl rfl) rfl rfl ?_
    refine stS rfl rfl rfl (.inl rfl) rfl rfl ?_
    refine st rfl rfl rfl (op_pickFO rfl rfl rfl) ?_
    refine AOps_nil ?_
    refine AWp_condF rfl ?_
    refine AWp_exit ?_
    refine AWp_seq ?_
    -- region 3 strings.go:1059
    refine AWp_regL ?_
    refine st rfl rfl rfl (op_moveO rfl rfl) ?_
    refine st rfl rfl rfl (op_assignO rfl rfl) ?_
    refine AOps_nil ?_
    refine AWp_ret ?_
    (try simp only [blockQ, thenQ])
    have hfin : cutR l = m := by
      rw [← hm1]
      cases hml : m with
      | nil => rfl
      | cons b r =>
        rw [← hml]
        have hlen : m.length = r.length + 1 := by rw [hml]; rfl
        first | (exfalso; omega; done) | (rw [cutR_take (l := m) (by omega), if_neg (fun e => by rw [hbs, bat_ba, e] at h2; exact h2 rfl)])
    rw [hfin]
    exact ResQ_10 rfl hcl trivial (Ret_of rfl)

theorem tTrimL_c (l : BL) (σ : List AO) (hl : l.length ≤ 1000000) : ACalls Tryd.prog 19 [.str (ba l), .str ⟨#[48]⟩] σ (Ret (.str (ba (cutL l))) σ) := by
  refine ACalls_body Tryd.func19 rfl Tryd.ntmps19 (res1 Tryd.results19) (Nat.le_of_ble_eq_true rfl) (fun hcl hal => ?_)
  have hbs : (ba l).size = l.length := ba_size l
  have hc1 : (ByteArray.mk #[48]).size = 1 := rfl
  refine AWp_seq ?_
  -- region 0 strings.go:997
  refine AWp_regL ?_
  refine st rfl rfl rfl (op_assignO rfl rfl) ?_
  refine AOps_nil ?_
  refine AWp_seq ?_
  refine AWp_seq ?_
  -- region 1 strings.go:998
  refine AWp_regL ?_
  refine st rfl rfl rfl (op_moveO rfl rfl) ?_
  refine st rfl rfl rfl (op_seql rfl rfl rfl) ?_
  refine st rfl rfl rfl (op_moveO rfl rfl) ?_
  refine AOps_split 9 rfl (fun h1 => ?_) (fun h1 => ?_)
  · rw [h1]; (try simp only [decide_eq_true_eq, decide_eq_false_iff_not, Bool.not_eq_true', Bool.not_eq_false', Int.not_lt, Int.not_le, Bool.not_true, Bool.not_false, Int.toNat_natCast, bne_iff_ne, beq_iff_eq, beq_eq_false_iff_ne, ne_eq, Decidable.not_not] at h1)
    refine stS rfl rfl rfl (.inl rfl) rfl rfl ?_
    refine stS rfl rfl rfl (.inl rfl) rfl rfl ?_
    refine st rfl rfl rfl (op_pickTO rfl rfl rfl) ?_
    refine AOps_nil ?_
    refine AWp_condT rfl ?_
    refine AWp_seq ?_
    -- region 2 strings.go:999
    refine AWp_regL ?_
    refine st rfl rfl rfl (op_moveO rfl rfl) ?_
    refine st rfl rfl rfl (op_assignO rfl rfl) ?_
    refine AOps_nil ?_
    refine AWp_ret ?_
    (try simp only [blockQ, thenQ])
    rw [ba_nil.1 h1]
    exact ResQ_10 rfl hcl trivial (Ret_of rfl)
  · rw [h1]; (try simp only [decide_eq_true_eq, decide_eq_false_iff_not, Bool.not_eq_true', Bool.not_eq_false', Int.not_lt, Int.not_le, Bool.not_true, Bool.not_false, Int.toNat_natCast, bne_iff_ne, beq_iff_eq, beq_eq_false_iff_ne, ne_eq, Decidable.not_not] at h1)
    refine stG rfl rfl rfl rfl rfl rfl (op_moveO rfl rfl) ?_
    refine stG rfl rfl rfl rfl rfl rfl (op_seql rfl rfl rfl) ?_
    refine st rfl rfl rfl (op_pickFO rfl rfl rfl) ?_
    refine AOps_nil ?_
    refine AWp_cond rfl (fun h2 => ?_) (fun h2 => ?_)
    · (try rw [h2]); (try simp only [decide_eq_true_eq, decide_eq_false_iff_not, Bool.not_eq_true', Bool.not_eq_false', Int.not_lt, Int.not_le, Bool.not_true, Bool.not_false, Int.toNat_natCast, bne_iff_ne, beq_iff_eq, beq_eq_false_iff_ne, ne_eq, Decidable.not_not] at h2)
      exact absurd h2 (by decide)
    · (try rw [h2]); (try simp only [decide_eq_true_eq, decide_eq_false_iff_not, Bool.not_eq_true', Bool.not_eq_false', Int.not_lt, Int.not_le, Bool.not_true, Bool.not_false, Int.toNat_natCast, bne_iff_ne, beq_iff_eq, beq_eq_false_iff_ne, ne_eq, Decidable.not_not] at h2)
      refine AWp_skip ?_
      refine AWp_seq ?_
      refine AWp_seq ?_
      -- region 3 strings.go:1001
      refine AWp_regL ?_
      refine st rfl rfl rfl (op_moveO rfl rfl) ?_
      refine st rfl rfl rfl (op_lenStr rfl rfl Tryd.underlying9 rfl) ?_
      refine st rfl rfl rfl (op_eql rfl rfl rfl) ?_
      refine st rfl rfl rfl (op_moveO rfl rfl) ?_
      refine AOps_split 17 rfl (fun h3 => ?_) (fun h3 => ?_)
      · rw [h3]; (try simp only [decide_eq_true_eq, decide_eq_false_iff_not, Bool.not_eq_true', Bool.not_eq_false', Int.not_lt, Int.not_le, Bool.not_true, Bool.not_false, Int.toNat_natCast, bne_iff_ne, beq_iff_eq, beq_eq_false_iff_ne, ne_eq, Decidable.not_not] at h3)
        refine stG rfl rfl rfl rfl rfl rfl (op_moveO rfl rfl) ?_
        refine stG rfl rfl rfl rfl rfl rfl (op_index_strB rfl Tryd.underlying9 rfl rfl (by omega) (by omega)) ?_
        refine stG rfl rfl rfl rfl rfl rfl (op_lss rfl rfl rfl) ?_
        refine st rfl rfl rfl (op_pickTO rfl rfl rfl) ?_
        refine AOps_nil ?_
        refine AWp_cond rfl (fun h4 => ?_) (fun h4 => ?_)
        · (try rw [h4]); (try simp only [decide_eq_true_eq, decide_eq_false_iff_not, Bool.not_eq_true', Bool.not_eq_false', Int.not_lt, Int.not_le, Bool.not_true, Bool.not_false, Int.toNat_natCast, bne_iff_ne, beq_iff_eq, beq_eq_false_iff_ne, ne_eq, Decidable.not_not] at h4)
          refine AWp_seq ?_
          -- region 4 strings.go:1002
          refine AWp_regL ?_
          refine st rfl rfl rfl (op_moveO rfl rfl) ?_
          refine st rfl rfl rfl (op_moveO rfl rfl) ?_
          refine st rfl rfl rfl (op_index_strB rfl Tryd.underlying9 rfl rfl (by omega) (by omega)) ?_
          refine st rfl rfl rfl (op_callF rfl rfl rfl Tryd.func34 rfl rfl (trimLB_c l _ hl)) ?_
          refine st rfl rfl rfl (op_assignO rfl rfl) ?_
          refine AOps_nil ?_
          refine AWp_ret ?_
          (try simp only [blockQ, thenQ])
          exact ResQ_10 rfl hcl trivial (Ret_of rfl)
        · (try rw [h4]); (try simp only [decide_eq_true_eq, decide_eq_false_iff_not, Bool.not_eq_true', Bool.not_eq_false', Int.not_lt, Int.not_le, Bool.not_true, Bool.not_false, Int.toNat_natCast, bne_iff_ne, beq_iff_eq, beq_eq_false_iff_ne, ne_eq, Decidable.not_not] at h4)
          exfalso; revert h4; decide
      · rw [h3]; (try simp only [decide_eq_true_eq, decide_eq_false_iff_not, Bool.not_eq_true', Bool.not_eq_false', Int.not_lt, Int.not_le, Bool.not_true, Bool.not_false, Int.toNat_natCast, bne_iff_ne, beq_iff_eq, beq_eq_false_iff_ne, ne_eq, Decidable.not_not] at h3)
        exfalso; omega

theorem tTrimR_c (l : BL) (σ : List AO) (hl : l.length ≤ 1000000) : ACalls Tryd.prog 20 [.str (ba l), .str ⟨#[48]⟩] σ (Ret (.str (ba (cutR l))) σ) := by
  refine ACalls_body Tryd.func20 rfl Tryd.ntmps20 (res1 Tryd.results20) (Nat.le_of_ble_eq_true rfl) (fun hcl hal => ?_)
  have hbs : (ba l).size = l.length := ba_size l
  have hc1 : (ByteArray.mk #[48]).size = 1 := rfl
  refine AWp_seq ?_
  -- region 0 strings.go:1042
  refine AWp_regL ?_
  refine st rfl rfl rfl (op_assignO rfl rfl) ?_
  refine AOps_nil ?_
  refine AWp_seq ?_
  refine AWp_seq ?_
  -- region 1 strings.go:1043
  refine AWp_regL ?_
  refine st rfl rfl rfl (op_moveO rfl rfl) ?_
  refine st rfl rfl rfl (op_seql rfl rfl rfl) ?_
  refine st rfl rfl rfl (op_moveO rfl rfl) ?_
  refine AOps_split 9 rfl (fun h1 => ?_) (fun h1 => ?_)
  · rw [h1]; (try simp only [decide_eq_true_eq, decide_eq_false_iff_not, Bool.not_eq_true', Bool.not_eq_false', Int.not_lt, Int.not_le, Bool.not_true, Bool.not_false, Int.toNat_natCast, bne_iff_ne, beq_iff_eq, beq_eq_false_iff_ne, ne_eq, Decidable.not_not] at h1)
    refine stS rfl rfl rfl (.inl rfl) rfl rfl ?_
    refine stS rfl rfl rfl (.inl rfl) rfl rfl ?_
    refine st rfl rfl rfl (op_pickTO rfl rfl rfl) ?_
    refine AOps_nil ?_
    refine AWp_condT rfl ?_
    refine AWp_seq ?_
    -- region 2 strings.go:1044
    refine AWp_regL ?_
    refine st rfl rfl rfl (op_moveO rfl rfl) ?_
    refine st rfl rfl rfl (op_assignO rfl rfl) ?_
    refine AOps_nil ?_
    refine AWp_ret ?_
    (try simp only [blockQ, thenQ])
    rw [ba_nil.1 h1]
    exact ResQ_10 rfl hcl trivial (Ret_of rfl)
  · rw [h1]; (try simp only [decide_eq_true_eq, decide_eq_false_iff_not, Bool.not_eq_true', Bool.not_eq_false', Int.not_lt, Int.not_le, Bool.not_true, Bool.not_false, Int.toNat_natCast, bne_iff_ne, beq_iff_eq, beq_eq_false_iff_ne, ne_eq, Decidable.not_not] at h1)
    refine stG rfl rfl rfl rfl rfl rfl (op_moveO rfl rfl) ?_
    refine stG rfl rfl rfl rfl rfl rfl (op_seql rfl rfl rfl) ?_
    refine st rfl rfl rfl (op_pickFO rfl rfl rfl) ?_
    refine AOps_nil ?_
    refine AWp_cond rfl (fun h2 => ?_) (fun h2 => ?_)
    · (try rw [h2]); (try simp only [decide_eq_true_eq, decide_eq_false_iff_not, Bool.not_eq_true', Bool.not_eq_false', Int.not_lt, Int.not_le, Bool.not_true, Bool.not_false, Int.toNat_natCast, bne_iff_ne, beq_iff_eq, beq_eq_false_iff_ne, ne_eq, Decidable.not_not] at h2)
      exact absurd h2 (by decide)
    · (try rw [h2]); (try simp only [decide_eq_true_eq, decide_eq_false_iff_not, Bool.not_eq_true', Bool.not_eq_false', Int.not_lt, Int.not_le, Bool.not_true, Bool.not_false, Int.toNat_natCast, bne_iff_ne, beq_iff_eq, beq_eq_false_iff_ne, ne_eq, Decidable.not_not] at h2)
      refine AWp_skip ?_
      refine AWp_seq ?_
      refine AWp_seq ?_
      -- region 3 strings.go:1046
      refine AWp_regL ?_
      refine st rfl rfl rfl (op_moveO rfl rfl) ?_
      refine st rfl rfl rfl (op_lenStr rfl rfl Tryd.underlying9 rfl) ?_
      refine st rfl rfl rfl (op_eql rfl rfl rfl) ?_
      refine st rfl rfl rfl (op_moveO rfl rfl) ?_
      refine AOps_split 17 rfl (fun h3 => ?_) (fun h3 => ?_)
      · rw [h3]; (try simp only [decide_eq_true_eq, decide_eq_false_iff_not, Bool.not_eq_true', Bool.not_eq_false', Int.not_lt, Int.not_le, Bool.not_true, Bool.not_false, Int.toNat_natCast, bne_iff_ne, beq_iff_eq, beq_eq_false_iff_ne, ne_eq, Decidable.not_not] at h3)
        refine stG rfl rfl rfl rfl rfl rfl (op_moveO rfl rfl) ?_
        refine stG rfl rfl rfl rfl rfl rfl (op_index_strB rfl Tryd.underlying9 rfl rfl (by omega) (by omega)) ?_
        refine stG rfl rfl rfl rfl rfl rfl (op_lss rfl rfl rfl) ?_
        refine st rfl rfl rfl (op_pickTO rfl rfl rfl) ?_
        refine AOps_nil ?_
        refine AWp_cond rfl (fun h4 => ?_) (fun h4 => ?_)
        · (try rw [h4]); (try simp only [decide_eq_true_eq, decide_eq_false_iff_not, Bool.not_eq_true', Bool.not_eq_false', Int.not_lt, Int.not_le, Bool.not_true, Bool.not_false, Int.toNat_natCast, bne_iff_ne, beq_iff_eq, beq_eq_false_iff_ne, ne_eq, Decidable.not_not] at h4)
          refine AWp_seq ?_
          -- region 4 strings.go:1047
          refine AWp_regL ?_
          refine st rfl rfl rfl (op_moveO rfl rfl) ?_
          refine st rfl rfl rfl (op_moveO rfl rfl) ?_
          refine st rfl rfl rfl (op_index_strB rfl Tryd.underlying9 rfl rfl (by omega) (by omega)) ?_
          refine st rfl rfl rfl (op_callF rfl rfl rfl Tryd.func38 rfl rfl (trimRB_c l _ hl)) ?_
          refine st rfl rfl rfl (op_assignO rfl rfl) ?_
          refine AOps_nil ?_
          refine AWp_ret ?_
          (try simp only [blockQ, thenQ])
          exact ResQ_10 rfl hcl trivial (Ret_of rfl)
        · (try rw [h4]); (try simp only [decide_eq_true_eq, decide_eq_false_iff_not, Bool.not_eq_true', Bool.not_eq_false', Int.not_lt, Int.not_le, Bool.not_true, Bool.not_false, Int.toNat_natCast, bne_iff_ne, beq_iff_eq, beq_eq_false_iff_ne, ne_eq, Decidable.not_not] at h4)
          exfalso; revert h4; decide
      · rw [h3]; (try simp only [decide_eq_true_eq, decide_eq_false_iff_not, Bool.not_eq_true', Bool.not_eq_false', Int.not_lt, Int.not_le, Bool.not_true, Bool.not_false, Int.toNat_natCast, bne_iff_ne, beq_iff_eq, beq_eq_false_iff_ne, ne_eq, Decidable.not_not] at h3)
        exfalso; omega

theorem pdig_c (l : BL) (σ : List AO) (hl : l.length ≤ 1000000) : ACalls Tryd.prog 32 [.str (ba l)] σ (Ret (.int .i64 ((l.takeWhile isD).length : Int)) σ) := by
  refine ACalls_body Tryd.func32 rfl Tryd.ntmps32 (res1 Tryd.results32) (Nat.le_of_ble_eq_true rfl) (fun hcl hal => ?_)
  have hbs : (ba l).size = l.length := ba_size l
  have hrr := runl_ba l
  have hrl := runl_le (ba l) 0
  refine AWp_seq ?_
  -- region 0 num.go:13
  refine AWp_regL ?_
  refine st rfl rfl rfl (op_assignO rfl rfl) ?_
  refine AOps_nil ?_
  refine AWp_seq ?_
  -- region 1 num.go:14
  refine AWp_regL ?_
  refine st rfl rfl rfl (op_assignO rfl rfl) ?_
  refine AOps_nil ?_
  refine AWp_seq ?_
  refine AWp_block ?_
  -- loop 0 LIVE 0:param 2:assign 3:assign
  refine AWp_loop (ι := Nat) (fun i => i + runl (ba l) i = runl (ba l) 0) (fun i => ⟨[], [(0, .str (ba l)), (3, .int .i64 (i : Int))]⟩) (fun i => σ) (fun i => (ba l).size - i) (0) (by simp) ?_ rfl (fun i hi => ?_)
  · exact ⟨rfl, rfl, rfl, trivial⟩
  have hle := runl_le (ba l) i
  refine AWp_seq ?_
  refine AWp_seq ?_
  -- region 2 num.go:15
  refine AWp_regL ?_
  refine st rfl rfl rfl (op_moveO rfl rfl) ?_
  refine st rfl rfl rfl (op_moveO rfl rfl) ?_
  refine st rfl rfl rfl (op_lenStr rfl rfl Tryd.underlying9 rfl) ?_
  refine st rfl rfl rfl (op_lss rfl rfl rfl) ?_
  refine st rfl rfl rfl (op_moveO rfl rfl) ?_
  refine AOps_split 8 rfl (fun h1 => ?_) (fun h1 => ?_)
  · rw [h1]; (try simp only [decide_eq_true_eq, decide_eq_false_iff_not, Bool.not_eq_true', Bool.not_eq_false', Int.not_lt, Int.not_le, Bool.not_true, Bool.not_false, Int.toNat_natCast, bne_iff_ne, beq_iff_eq, beq_eq_false_iff_ne, ne_eq, Decidable.not_not] at h1)
    refine stG rfl rfl rfl rfl rfl rfl (op_moveO rfl rfl) ?_
    refine stG rfl rfl rfl rfl rfl rfl (op_moveO rfl rfl) ?_
    refine stG rfl rfl rfl rfl rfl rfl (op_index_strB rfl Tryd.underlying9 rfl rfl (by omega) (by omega)) ?_
    refine stG rfl rfl rfl rfl rfl rfl (op_geq rfl rfl rfl) ?_
    refine st rfl rfl rfl (op_pickTO rfl rfl rfl) ?_
    refine st rfl rfl rfl (op_moveO rfl rfl) ?_
    refine AOps_split 14 rfl (fun h2 => ?_) (fun h2 => ?_)
    · rw [h2]; (try simp only [decide_eq_true_eq, decide_eq_false_iff_not, Bool.not_eq_true', Bool.not_eq_false', Int.not_lt, Int.not_le, Bool.not_true, Bool.not_false, Int.toNat_natCast, bne_iff_ne, beq_iff_eq, beq_eq_false_iff_ne, ne_eq, Decidable.not_not] at h2)
      refine stG rfl rfl rfl rfl rfl rfl (op_moveO rfl rfl) ?_
      refine stG rfl rfl rfl rfl rfl rfl (op_moveO rfl rfl) ?_
      refine stG rfl rfl rfl rfl rfl rfl (op_index_strB rfl Tryd.underlying9 rfl rfl (by omega) (by omega)) ?_
      refine stG rfl rfl rfl rfl rfl rfl (op_leq rfl rfl rfl) ?_
      refine st rfl rfl rfl (op_pickTO rfl rfl rfl) ?_
      refine AOps_nil ?_
      refine AWp_cond rfl (fun h3 => ?_) (fun h3 => ?_)
      · (try rw [h3]); (try simp only [decide_eq_true_eq, decide_eq_false_iff_not, Bool.not_eq_true', Bool.not_eq_false', Int.not_lt, Int.not_le, Bool.not_true, Bool.not_false, Int.toNat_natCast, bne_iff_ne, beq_iff_eq, beq_eq_false_iff_ne, ne_eq, Decidable.not_not] at h3)
        refine AWp_skip ?_
        refine AWp_block ?_
        -- region 3 num.go:16
        refine AWp_regL ?_
        refine st rfl rfl rfl (op_moveO rfl rfl) ?_
        refine st rfl rfl rfl (op_add64 rfl rfl rfl (by omega) (by omega)) ?_
        refine st rfl rfl rfl (op_assignO rfl rfl) ?_
        refine AOps_nil ?_
        have hd : dig (ba l) i := by simp only [dig]; omega
        have hr := runl_yes (by omega) hd
        refine ⟨i + 1, σ.length, by omega, by omega, Nat.le_refl _, ⟨rfl, rfl, rfl, trivial⟩, hcl, ?_, List.take_length⟩
        simp [ltE, AV.lt]
      · (try rw [h3]); (try simp only [decide_eq_true_eq, decide_eq_false_iff_not, Bool.not_eq_true', Bool.not_eq_false', Int.not_lt, Int.not_le, Bool.not_true, Bool.not_false, Int.toNat_natCast, bne_iff_ne, beq_iff_eq, beq_eq_false_iff_ne, ne_eq, Decidable.not_not] at h3)
        refine AWp_exit ?_
        refine AWp_seq ?_
        -- region 4 num.go:18
        refine AWp_regL ?_
        refine st rfl rfl rfl (op_moveO rfl rfl) ?_
        refine st rfl rfl rfl (op_assignO rfl rfl) ?_
        refine AOps_nil ?_
        refine AWp_ret ?_
        (try simp only [blockQ, thenQ])
        have hr := runl_no (b := ba l) (i := i) (by simp only [dig]; omega)
        refine ResQ_10 rfl hcl trivial (Ret_of ?_)
        congr 1; omega
    · rw [h2]; (try simp only [decide_eq_true_eq, decide_eq_false_iff_not, Bool.not_eq_true', Bool.not_eq_false', Int.not_lt, Int.not_le, Bool.not_true, Bool.not_false, Int.toNat_natCast, bne_iff_ne, beq_iff_eq, beq_eq_false_iff_ne, ne_eq, Decidable.not_not] at h2)
      refine stS rfl rfl rfl (.inl rfl) rfl rfl ?_
      refine stS rfl rfl rfl (.inl rfl) rfl rfl ?_
      refine stS rfl rfl rfl (.inl rfl) rfl rfl ?_
      refine stS rfl rfl rfl (.inl rfl) rfl rfl ?_
      refine st rfl rfl rfl (op_pickFO rfl rfl rfl) ?_
      refine AOps_nil ?_
      refine AWp_condF rfl ?_
      refine AWp_exit ?_
      refine AWp_seq ?_
      -- region 4 num.go:18
      refine AWp_regL ?_
      refine st rfl rfl rfl (op_moveO rfl rfl) ?_
      refine st rfl rfl rfl (op_assignO rfl rfl) ?_
      refine AOps_nil ?_
      refine AWp_ret ?_
      (try simp only [blockQ, thenQ])
      have hr := runl_no (b := ba l) (i := i) (by simp only [dig]; omega)
      refine ResQ_10 rfl hcl trivial (Ret_of ?_)
      congr 1; omega
  · rw [h1]; (try simp only [decide_eq_true_eq, decide_eq_false_iff_not, Bool.not_eq_true', Bool.not_eq_false', Int.not_lt, Int.not_le, Bool.not_true, Bool.not_false, Int.toNat_natCast, bne_iff_ne, beq_iff_eq, beq_eq_false_iff_ne, ne_eq, Decidable.not_not] at h1)
    refine stS rfl rfl rfl (.inl rfl) rfl rfl ?_
    refine stS rfl rfl rfl (.inl rfl) rfl rfl ?_
    refine stS rfl rfl rfl (.inl rfl) rfl rfl ?_
    refine stS rfl rfl rfl (.inl rfl) rfl rfl ?_
    refine st rfl rfl rfl (op_pickFO rfl rfl rfl) ?_
    refine st rfl rfl rfl (op_moveO rfl rfl) ?_
    refine stS rfl rfl rfl (.inl rfl) rfl rfl ?_
    refine stS rfl rfl rfl (.inl rfl) rfl rfl ?_
    refine stS rfl rfl rfl (.inl rfl) rfl rfl ?_
    refine stS rfl rfl rfl (.inl rfl) rfl rfl ?_
    refine st rfl rfl rfl (op_pickFO rfl rfl rfl) ?_
    refine AOps_nil ?_
    refine AWp_condF rfl ?_
    refine AWp_exit ?_
    refine AWp_seq ?_
    -- region 4 num.go:18
    refine AWp_regL ?_
    refine st rfl rfl rfl (op_moveO rfl rfl) ?_
    refine st rfl rfl rfl (op_assignO rfl rfl) ?_
    refine AOps_nil ?_
    refine AWp_ret ?_
    (try simp only [blockQ, thenQ])
    have hr := runl_no (b := ba l) (i := i) (by simp only [dig]; omega)
    refine ResQ_10 rfl hcl trivial (Ret_of ?_)
    congr 1; omega

end Lg
namespace Lg
open Go
def jsign (n : JNum) : Int := if n.digits = ⟨#[]⟩ then 0 else if n.neg = true then -1 else 1
def cmpI (a b : Int) : Int := if a < b then -1 else if b < a then 1 else 0
def cmpS (a b : ByteArray) : Int := if blt a b = true then -1 else if (blt a b || decide (a = b)) = false then 1 else 0
def pCmp (a b : JNum) : Int := if jsign a = jsign b then jsign a * (if cmpI (a.digits.size + a.exp) (b.digits.size + b.exp) = 0 then cmpS a.digits b.digits else cmpI (a.digits.size + a.exp) (b.digits.size + b.exp)) else cmpI (jsign a) (jsign b)
def zer (k : Int) : BL := List.replicate k.toNat 48
/-- A number's digits, up to a power of ten. -/
def jexp (n : JNum) (low : Int) : ByteArray := if n.digits = ⟨#[]⟩ then ⟨#[]⟩ else n.digits ++ ba (zer (n.exp - low))
def lessS (x y : ByteArray) : Bool := if x.size = y.size then blt x y else decide (x.size < y.size)
def rLess (a b : JNum) : Bool :=
  if a.neg = b.neg then (if a.neg = true then lessS (jexp b (min a.exp b.exp)) (jexp a (min a.exp b.exp)) else lessS (jexp a (min a.exp b.exp)) (jexp b (min a.exp b.exp))) else a.neg
def rCmp (a b : JNum) : Int := if rLess a b = true then -1 else if rLess b a = true then 1 else 0
def itoaB (n : Int) : ByteArray := ba (Lib.itoa n)
theorem dd_small {u : Nat} (h : u < 10) : Lib.decDigits u = [UInt8.ofNat (48 + u)] := by rw [Lib.decDigits, dif_pos h]
theorem dd_big {u : Nat} (h : ¬ u < 10) : Lib.decDigits u = Lib.decDigits (u / 10) ++ [UInt8.ofNat (48 + u % 10)] := by rw [Lib.decDigits, dif_neg h]
theorem itoa_neg {n : Int} (h : n < 0) : itoaB n = (⟨#[45]⟩ : ByteArray) ++ itoaB (-n) := by
  unfold itoaB Lib.itoa
  rw [if_pos h, if_neg (by omega), show n.natAbs = (-n).toNat by omega]
  have : (⟨#[45]⟩ : ByteArray) = ba [45] := rfl
  rw [this, ba_app]; rfl
theorem itoa_small {n : Int} (h : 0 ≤ n) (h1 : n < 10) : itoaB n = ⟨#[u8b (48 + n)]⟩ := by
  unfold itoaB Lib.itoa
  rw [if_neg (by omega), dd_small (by omega)]
  have e : u8b (48 + n) = UInt8.ofNat (48 + n.toNat) := by unfold u8b; congr 1; omega
  rw [e]; rfl
theorem itoa_big {n : Int} (h1 : 10 ≤ n) : itoaB n = itoaB (n / 10) ++ (⟨#[u8b (48 + n % 10)]⟩ : ByteArray) := by
  unfold itoaB Lib.itoa
  rw [if_neg (by omega), if_neg (by omega), dd_big (by omega)]
  have e : u8b (48 + n % 10) = UInt8.ofNat (48 + n.toNat % 10) := by unfold u8b; congr 1; omega
  have e2 : (⟨#[u8b (48 + n % 10)]⟩ : ByteArray) = ba [UInt8.ofNat (48 + n.toNat % 10)] := by rw [e]; rfl
  rw [e2, ba_app]
  congr 3; omega
theorem dd_len (u : Nat) : ∀ k, u < 10 ^ (k + 1) → (Lib.decDigits u).length ≤ k + 1 := by
  intro k
  induction k generalizing u with
  | zero => intro h; rw [dd_small (by simpa using h)]; exact Nat.le_refl _
  | succ k ih =>
    intro h
    by_cases h1 : u < 10
    · rw [dd_small h1]; simp
    · rw [dd_big h1, List.length_append]
      have := ih (u / 10) (by rw [Nat.pow_succ] at h; omega)
      simp; omega
theorem itoa_size {n : Int} (h0 : -9223372036854775808 ≤ n) (h1 : n ≤ 9223372036854775807) : (itoaB n).size ≤ 21 := by
  unfold itoaB
  rw [ba_size]
  unfold Lib.itoa
  split
  · have := dd_len n.natAbs 19 (by omega)
    simp; omega
  · have := dd_len n.toNat 19 (by omega); omega
def jshow (n : JNum) : ByteArray :=
  if n.digits = ⟨#[]⟩ then ⟨#[48]⟩ else
  if n.exp = 0 then (if n.neg = true then (⟨#[45]⟩ : ByteArray) ++ n.digits else n.digits) else (if n.neg = true then (⟨#[45]⟩ : ByteArray) ++ n.digits else n.digits) ++ (⟨#[101]⟩ : ByteArray) ++ itoaB n.exp
def rWhole (n : JNum) : Bool := decide (n.digits = ⟨#[]⟩) || decide (0 ≤ n.exp)
theorem pParts_no {l : BL} (h : (l.takeWhile isD).length = 0 ∨ (1 < (l.takeWhile isD).length ∧ l.headD 0 = 48)) : pParts l = ([], [], [], false) := by unfold pParts; rw [if_pos h]
theorem pParts_none {l : BL} (h : ¬ ((l.takeWhile isD).length = 0 ∨ (1 < (l.takeWhile isD).length ∧ l.headD 0 = 48))) (h2 : pFrac (l.dropWhile isD) = none) : pParts l = ([], [], [], false) := by unfold pParts; rw [if_neg h, h2]
theorem pParts_some {l : BL} {f r : BL} (h : ¬ ((l.takeWhile isD).length = 0 ∨ (1 < (l.takeWhile isD).length ∧ l.headD 0 = 48))) (h2 : pFrac (l.dropWhile isD) = some (f, r)) : pParts l = (l.takeWhile isD, f, (pExp r).1, (pExp r).2) := by unfold pParts; rw [if_neg h, h2]
end Lg
set_option maxRecDepth 20000
set_option maxHeartbeats 4000000
namespace Lg
open Go Go.Proofs Go.RowKit
variable [GLay] 


theorem sign_c (n : JNum) (σ : List AO) : ACalls Tryd.prog 26 [.agg (ncells n)] σ (Ret (.int .i64 (jsign n)) σ) := by
  refine ACalls_body Tryd.func26 rfl Tryd.ntmps26 (res1 Tryd.results26) (Nat.le_of_ble_eq_true rfl) (fun hcl hal => ?_)
  refine AWp_seq ?_
  -- region 0 num.go:96
  refine AWp_regL ?_
  refine st rfl rfl rfl (op_box0 (cs := [_, _, _]) rfl rfl rfl) ?_
  refine st rfl rfl rfl (op_assignO rfl rfl) ?_
  refine AOps_nil ?_
  refine AWp_seq ?_
  refine AWp_block ?_
  refine AWp_seq ?_
  -- region 1 num.go:98
  refine AWp_regL ?_
  refine st rfl rfl rfl (op_fieldAddrO (fo := 1) rfl Tryd.underlying24 rfl rfl Tryd.sizeOf9 (by decide) rfl trivial) ?_
  refine st rfl rfl rfl (op_load1 rfl Tryd.isAgg9 (by first | exact ldv_own rfl rfl | exact ldv_pp rfl | exact ldv_old (by assumption) rfl | exact ldv_ptr (by assumption) rfl)) ?_
  refine st rfl rfl rfl (op_seql rfl rfl rfl) ?_
  refine st rfl rfl rfl (op_assignO rfl rfl) ?_
  refine AOps_nil ?_
  refine AWp_cond rfl (fun h1 => ?_) (fun h1 => ?_)
  · (try rw [h1]); (try simp only [decide_eq_true_eq, decide_eq_false_iff_not, Bool.not_eq_true', Bool.not_eq_false', Int.not_lt, Int.not_le, Bool.not_true, Bool.not_false, Int.toNat_natCast, bne_iff_ne, beq_iff_eq, beq_eq_false_iff_ne, ne_eq, Decidable.not_not] at h1)
    refine AWp_seq ?_
    -- region 2 num.go:99
    refine AWp_regL ?_
    refine st rfl rfl rfl (op_assignO rfl rfl) ?_
    refine AOps_nil ?_
    refine AWp_ret ?_
    (try simp only [blockQ, thenQ])
    refine ResQ_1 rfl hcl trivial (Ret_of ?_)
    congr 1; unfold jsign; first | (rw [if_pos (by assumption)]; done) | (rw [if_neg (by assumption), if_pos (by assumption)]; done) | (rw [if_neg (by assumption), if_neg (by simp [*])]; done)
  · (try rw [h1]); (try simp only [decide_eq_true_eq, decide_eq_false_iff_not, Bool.not_eq_true', Bool.not_eq_false', Int.not_lt, Int.not_le, Bool.not_true, Bool.not_false, Int.toNat_natCast, bne_iff_ne, beq_iff_eq, beq_eq_false_iff_ne, ne_eq, Decidable.not_not] at h1)
    refine AWp_seq ?_
    -- region 3 num.go:100
    refine AWp_regL ?_
    refine st rfl rfl rfl (op_fieldAddrO (fo := 0) rfl Tryd.underlying24 rfl rfl Tryd.sizeOf4 (by decide) rfl trivial) ?_
    refine st rfl rfl rfl (op_load1 rfl Tryd.isAgg4 (by first | exact ldv_own rfl rfl | exact ldv_pp rfl | exact ldv_old (by assumption) rfl | exact ldv_ptr (by assumption) rfl)) ?_
    refine st rfl rfl rfl (op_assignO rfl rfl) ?_
    refine AOps_nil ?_
    refine AWp_cond rfl (fun h2 => ?_) (fun h2 => ?_)
    · (try rw [h2]); (try simp only [decide_eq_true_eq, decide_eq_false_iff_not, Bool.not_eq_true', Bool.not_eq_false', Int.not_lt, Int.not_le, Bool.not_true, Bool.not_false, Int.toNat_natCast, bne_iff_ne, beq_iff_eq, beq_eq_false_iff_ne, ne_eq, Decidable.not_not] at h2)
      refine AWp_seq ?_
      -- region 4 num.go:101
      refine AWp_regL ?_
      refine st rfl rfl rfl (op_assignO rfl rfl) ?_
      refine AOps_nil ?_
      refine AWp_ret ?_
      (try simp only [blockQ, thenQ])
      refine ResQ_1 rfl hcl trivial (Ret_of ?_)
      congr 1; unfold jsign; first | (rw [if_pos (by assumption)]; done) | (rw [if_neg (by assumption), if_pos (by assumption)]; done) | (rw [if_neg (by assumption), if_neg (by simp [*])]; done)
    · (try rw [h2]); (try simp only [decide_eq_true_eq, decide_eq_false_iff_not, Bool.not_eq_true', Bool.not_eq_false', Int.not_lt, Int.not_le, Bool.not_true, Bool.not_false, Int.toNat_natCast, bne_iff_ne, beq_iff_eq, beq_eq_false_iff_ne, ne_eq, Decidable.not_not] at h2)
      refine AWp_skip ?_
      refine AWp_seq ?_
      -- region 5 num.go:103
      refine AWp_regL ?_
      refine st rfl rfl rfl (op_assignO rfl rfl) ?_
      refine AOps_nil ?_
      refine AWp_ret ?_
      (try simp only [blockQ, thenQ])
      refine ResQ_1 rfl hcl trivial (Ret_of ?_)
      congr 1; unfold jsign; first | (rw [if_pos (by assumption)]; done) | (rw [if_neg (by assumption), if_pos (by assumption)]; done) | (rw [if_neg (by assumption), if_neg (by simp [*])]; done)

theorem nanI_c (a : Int) (σ : List AO) : ACalls Tryd.prog 44 [.int .i64 a] σ (Ret (.bool false) σ) := by
  refine ACalls_body Tryd.func44 rfl Tryd.ntmps44 (res1 Tryd.results44) (Nat.le_of_ble_eq_true rfl) (fun hcl hal => ?_)
  refine AWp_seq ?_
  -- region 0 cmp.go:63
  refine AWp_regL ?_
  refine st rfl rfl rfl (op_assignO rfl rfl) ?_
  refine AOps_nil ?_
  refine AWp_seq ?_
  -- region 1 cmp.go:64
  refine AWp_regL ?_
  refine st rfl rfl rfl (op_moveO rfl rfl) ?_
  refine st rfl rfl rfl (op_moveO rfl rfl) ?_
  refine st rfl rfl rfl (op_neqF rfl rfl rfl rfl) ?_
  refine st rfl rfl rfl (op_assignO rfl rfl) ?_
  refine AOps_nil ?_
  refine AWp_ret ?_
  (try simp only [blockQ, thenQ])
  exact ResQ_10 rfl hcl (by simp [AV.lt, AV.ltL]) ⟨rfl, rfl⟩

theorem nanS_c (a : ByteArray) (σ : List AO) : ACalls Tryd.prog 45 [.str a] σ (Ret (.bool false) σ) := by
  refine ACalls_body Tryd.func45 rfl Tryd.ntmps45 (res1 Tryd.results45) (Nat.le_of_ble_eq_true rfl) (fun hcl hal => ?_)
  refine AWp_seq ?_
  -- region 0 cmp.go:63
  refine AWp_regL ?_
  refine st rfl rfl rfl (op_assignO rfl rfl) ?_
  refine AOps_nil ?_
  refine AWp_seq ?_
  -- region 1 cmp.go:64
  refine AWp_regL ?_
  refine st rfl rfl rfl (op_moveO rfl rfl) ?_
  refine st rfl rfl rfl (op_moveO rfl rfl) ?_
  refine st rfl rfl rfl (op_sneqF rfl rfl rfl rfl) ?_
  refine st rfl rfl rfl (op_assignO rfl rfl) ?_
  refine AOps_nil ?_
  refine AWp_ret ?_
  (try simp only [blockQ, thenQ])
  exact ResQ_10 rfl hcl (by simp [AV.lt, AV.ltL]) ⟨rfl, rfl⟩

theorem cmpI_c (a b : Int) (σ : List AO) : ACalls Tryd.prog 27 [.int .i64 a, .int .i64 b] σ (Ret (.int .i64 (cmpI a b)) σ) := by
  refine ACalls_body Tryd.func27 rfl Tryd.ntmps27 (res1 Tryd.results27) (Nat.le_of_ble_eq_true rfl) (fun hcl hal => ?_)
  refine AWp_seq ?_
  -- region 0 cmp.go:40
  refine AWp_regL ?_
  refine st rfl rfl rfl (op_assignO rfl rfl) ?_
  refine AOps_nil ?_
  refine AWp_seq ?_
  -- region 1 cmp.go:41
  refine AWp_regL ?_
  refine st rfl rfl rfl (op_moveO rfl rfl) ?_
  refine st rfl rfl rfl (op_callF rfl rfl rfl Tryd.func44 rfl rfl (nanI_c _ _)) ?_
  refine st rfl rfl rfl (op_assignO rfl rfl) ?_
  refine AOps_nil ?_
  refine AWp_seq ?_
  -- region 2 cmp.go:42
  refine AWp_regL ?_
  refine st rfl rfl rfl (op_moveO rfl rfl) ?_
  refine st rfl rfl rfl (op_callF rfl rfl rfl Tryd.func44 rfl rfl (nanI_c _ _)) ?_
  refine st rfl rfl rfl (op_assignO rfl rfl) ?_
  refine AOps_nil ?_
  refine AWp_seq ?_
  refine AWp_seq ?_
  -- region 3 cmp.go:43
  refine AWp_regL ?_
  refine st rfl rfl rfl (op_moveO rfl rfl) ?_
  refine AOps_nil ?_
  refine AWp_condF rfl ?_
  refine AWp_skip ?_
  refine AWp_seq ?_
  refine AWp_seq ?_
  -- region 7 cmp.go:49
  refine AWp_regL ?_
  refine st rfl rfl rfl (op_moveO rfl rfl) ?_
  refine AOps_nil ?_
  refine AWp_condF rfl ?_
  refine AWp_skip ?_
  refine AWp_seq ?_
  refine AWp_seq ?_
  -- region 9 cmp.go:52
  refine AWp_regL ?_
  refine st rfl rfl rfl (op_moveO rfl rfl) ?_
  refine st rfl rfl rfl (op_moveO rfl rfl) ?_
  refine st rfl rfl rfl (op_lss rfl rfl rfl) ?_
  refine AOps_nil ?_
  refine AWp_cond rfl (fun h1 => ?_) (fun h1 => ?_)
  · (try rw [h1]); (try simp only [decide_eq_true_eq, decide_eq_false_iff_not, Bool.not_eq_true', Bool.not_eq_false', Int.not_lt, Int.not_le, Bool.not_true, Bool.not_false, Int.toNat_natCast, bne_iff_ne, beq_iff_eq, beq_eq_false_iff_ne, ne_eq, Decidable.not_not] at h1)
    refine AWp_seq ?_
    -- region 10 cmp.go:53
    refine AWp_regL ?_
    refine st rfl rfl rfl (op_assignO rfl rfl) ?_
    refine AOps_nil ?_
    refine AWp_ret ?_
    (try simp only [blockQ, thenQ])
    refine ResQ_10 rfl hcl trivial (Ret_of ?_)
    congr 1; unfold cmpI; first | (rw [if_pos (by omega)]; done) | (rw [if_neg (by omega), if_pos (by omega)]; done) | (rw [if_neg (by omega), if_neg (by omega)]; done)
  · (try rw [h1]); (try simp only [decide_eq_true_eq, decide_eq_false_iff_not, Bool.not_eq_true', Bool.not_eq_false', Int.not_lt, Int.not_le, Bool.not_true, Bool.not_false, Int.toNat_natCast, bne_iff_ne, beq_iff_eq, beq_eq_false_iff_ne, ne_eq, Decidable.not_not] at h1)
    refine AWp_skip ?_
    refine AWp_seq ?_
    refine AWp_seq ?_
    -- region 11 cmp.go:55
    refine AWp_regL ?_
    refine st rfl rfl rfl (op_moveO rfl rfl) ?_
    refine st rfl rfl rfl (op_moveO rfl rfl) ?_
    refine st rfl rfl rfl (op_gtr rfl rfl rfl) ?_
    refine AOps_nil ?_
    refine AWp_cond rfl (fun h2 => ?_) (fun h2 => ?_)
    · (try rw [h2]); (try simp only [decide_eq_true_eq, decide_eq_false_iff_not, Bool.not_eq_true', Bool.not_eq_false', Int.not_lt, Int.not_le, Bool.not_true, Bool.not_false, Int.toNat_natCast, bne_iff_ne, beq_iff_eq, beq_eq_false_iff_ne, ne_eq, Decidable.not_not] at h2)
      refine AWp_seq ?_
      -- region 12 cmp.go:56
      refine AWp_regL ?_
      refine st rfl rfl rfl (op_assignO rfl rfl) ?_
      refine AOps_nil ?_
      refine AWp_ret ?_
      (try simp only [blockQ, thenQ])
      refine ResQ_10 rfl hcl trivial (Ret_of ?_)
      congr 1; unfold cmpI; first | (rw [if_pos (by omega)]; done) | (rw [if_neg (by omega), if_pos (by omega)]; done) | (rw [if_neg (by omega), if_neg (by omega)]; done)
    · (try rw [h2]); (try simp only [decide_eq_true_eq, decide_eq_false_iff_not, Bool.not_eq_true', Bool.not_eq_false', Int.not_lt, Int.not_le, Bool.not_true, Bool.not_false, Int.toNat_natCast, bne_iff_ne, beq_iff_eq, beq_eq_false_iff_ne, ne_eq, Decidable.not_not] at h2)
      refine AWp_skip ?_
      refine AWp_seq ?_
      -- region 13 cmp.go:58
      refine AWp_regL ?_
      refine st rfl rfl rfl (op_assignO rfl rfl) ?_
      refine AOps_nil ?_
      refine AWp_ret ?_
      (try simp only [blockQ, thenQ])
      refine ResQ_10 rfl hcl trivial (Ret_of ?_)
      congr 1; unfold cmpI; first | (rw [if_pos (by omega)]; done) | (rw [if_neg (by omega), if_pos (by omega)]; done) | (rw [if_neg (by omega), if_neg (by omega)]; done)

theorem cmpS_c (a b : ByteArray) (σ : List AO) : ACalls Tryd.prog 29 [.str a, .str b] σ (Ret (.int .i64 (cmpS a b)) σ) := by
  refine ACalls_body Tryd.func29 rfl Tryd.ntmps29 (res1 Tryd.results29) (Nat.le_of_ble_eq_true rfl) (fun hcl hal => ?_)
  refine AWp_seq ?_
  -- region 0 cmp.go:40
  refine AWp_regL ?_
  refine st rfl rfl rfl (op_assignO rfl rfl) ?_
  refine AOps_nil ?_
  refine AWp_seq ?_
  -- region 1 cmp.go:41
  refine AWp_regL ?_
  refine st rfl rfl rfl (op_moveO rfl rfl) ?_
  refine st rfl rfl rfl (op_callF rfl rfl rfl Tryd.func45 rfl rfl (nanS_c _ _)) ?_
  refine st rfl rfl rfl (op_assignO rfl rfl) ?_
  refine AOps_nil ?_
  refine AWp_seq ?_
  -- region 2 cmp.go:42
  refine AWp_regL ?_
  refine st rfl rfl rfl (op_moveO rfl rfl) ?_
  refine st rfl rfl rfl (op_callF rfl rfl rfl Tryd.func45 rfl rfl (nanS_c _ _)) ?_
  refine st rfl rfl rfl (op_assignO rfl rfl) ?_
  refine AOps_nil ?_
  refine AWp_seq ?_
  refine AWp_seq ?_
  -- region 3 cmp.go:43
  refine AWp_regL ?_
  refine st rfl rfl rfl (op_moveO rfl rfl) ?_
  refine AOps_nil ?_
  refine AWp_condF rfl ?_
  refine AWp_skip ?_
  refine AWp_seq ?_
  refine AWp_seq ?_
  -- region 7 cmp.go:49
  refine AWp_regL ?_
  refine st rfl rfl rfl (op_moveO rfl rfl) ?_
  refine AOps_nil ?_
  refine AWp_condF rfl ?_
  refine AWp_skip ?_
  refine AWp_seq ?_
  refine AWp_seq ?_
  -- region 9 cmp.go:52
  refine AWp_regL ?_
  refine st rfl rfl rfl (op_moveO rfl rfl) ?_
  refine st rfl rfl rfl (op_moveO rfl rfl) ?_
  refine st rfl rfl rfl (op_slss rfl rfl rfl) ?_
  refine AOps_nil ?_
  refine AWp_cond rfl (fun h1 => ?_) (fun h1 => ?_)
  · (try rw [h1]); (try simp only [decide_eq_true_eq, decide_eq_false_iff_not, Bool.not_eq_true', Bool.not_eq_false', Int.not_lt, Int.not_le, Bool.not_true, Bool.not_false, Int.toNat_natCast, bne_iff_ne, beq_iff_eq, beq_eq_false_iff_ne, ne_eq, Decidable.not_not] at h1)
    refine AWp_seq ?_
    -- region 10 cmp.go:53
    refine AWp_regL ?_
    refine st rfl rfl rfl (op_assignO rfl rfl) ?_
    refine AOps_nil ?_
    refine AWp_ret ?_
    (try simp only [blockQ, thenQ])
    refine ResQ_10 rfl hcl trivial (Ret_of ?_)
    congr 1; unfold cmpS; first | (rw [if_pos (by assumption)]; done) | (rw [if_neg (by simp [*]), if_pos (by assumption)]; done) | (rw [if_neg (by rw [h1]; simp), if_neg (by rw [h2]; simp)]; done)
  · (try rw [h1]); (try simp only [decide_eq_true_eq, decide_eq_false_iff_not, Bool.not_eq_true', Bool.not_eq_false', Int.not_lt, Int.not_le, Bool.not_true, Bool.not_false, Int.toNat_natCast, bne_iff_ne, beq_iff_eq, beq_eq_false_iff_ne, ne_eq, Decidable.not_not] at h1)
    refine AWp_skip ?_
    refine AWp_seq ?_
    refine AWp_seq ?_
    -- region 11 cmp.go:55
    refine AWp_regL ?_
    refine st rfl rfl rfl (op_moveO rfl rfl) ?_
    refine st rfl rfl rfl (op_moveO rfl rfl) ?_
    refine st rfl rfl rfl (op_sgtr rfl rfl rfl) ?_
    refine AOps_nil ?_
    refine AWp_cond rfl (fun h2 => ?_) (fun h2 => ?_)
    · (try rw [h2]); (try simp only [decide_eq_true_eq, decide_eq_false_iff_not, Bool.not_eq_true', Bool.not_eq_false', Int.not_lt, Int.not_le, Bool.not_true, Bool.not_false, Int.toNat_natCast, bne_iff_ne, beq_iff_eq, beq_eq_false_iff_ne, ne_eq, Decidable.not_not] at h2)
      refine AWp_seq ?_
      -- region 12 cmp.go:56
      refine AWp_regL ?_
      refine st rfl rfl rfl (op_assignO rfl rfl) ?_
      refine AOps_nil ?_
      refine AWp_ret ?_
      (try simp only [blockQ, thenQ])
      refine ResQ_10 rfl hcl trivial (Ret_of ?_)
      congr 1; unfold cmpS; first | (rw [if_pos (by assumption)]; done) | (rw [if_neg (by simp [*]), if_pos (by assumption)]; done) | (rw [if_neg (by rw [h1]; simp), if_neg (by rw [h2]; simp)]; done)
    · (try rw [h2]); (try simp only [decide_eq_true_eq, decide_eq_false_iff_not, Bool.not_eq_true', Bool.not_eq_false', Int.not_lt, Int.not_le, Bool.not_true, Bool.not_false, Int.toNat_natCast, bne_iff_ne, beq_iff_eq, beq_eq_false_iff_ne, ne_eq, Decidable.not_not] at h2)
      refine AWp_skip ?_
      refine AWp_seq ?_
      -- region 13 cmp.go:58
      refine AWp_regL ?_
      refine st rfl rfl rfl (op_assignO rfl rfl) ?_
      refine AOps_nil ?_
      refine AWp_ret ?_
      (try simp only [blockQ, thenQ])
      refine ResQ_10 rfl hcl trivial (Ret_of ?_)
      congr 1; unfold cmpS; first | (rw [if_pos (by assumption)]; done) | (rw [if_neg (by simp [*]), if_pos (by assumption)]; done) | (rw [if_neg (by rw [h1]; simp), if_neg (by rw [h2]; simp)]; done)

theorem two_row {a b : Int} {i : Nat} (h : i < 2) : [[AV.int .i64 a], [AV.int .i64 b]][i]? = some [.int .i64 (if i = 0 then a else b)] := by
  have : i = 0 ∨ i = 1 := by omega
  rcases this with rfl | rfl <;> rfl
theorem cmpOr_c (a b : Int) (σ : List AO) : ACalls Tryd.prog 28 [.sl true 1 [[.int .i64 a], [.int .i64 b]]] σ (Ret (.int .i64 (if a = 0 then b else a)) σ) := by
  refine ACalls_body Tryd.func28 rfl Tryd.ntmps28 (res1 Tryd.results28) (Nat.le_of_ble_eq_true rfl) (fun hcl hal => ?_)
  refine AWp_seq ?_
  -- region 0 cmp.go:69
  refine AWp_regL ?_
  refine st rfl rfl rfl (op_assignO rfl rfl) ?_
  refine AOps_nil ?_
  refine AWp_seq ?_
  -- region 1 cmp.go:70
  refine AWp_regL ?_
  refine st rfl rfl rfl (op_assignO rfl rfl) ?_
  refine AOps_nil ?_
  refine AWp_seq ?_
  refine AWp_seq ?_
  -- region 2 cmp.go:71
  refine AWp_regL ?_
  refine st rfl rfl rfl (op_moveO rfl rfl) ?_
  refine st rfl rfl rfl (op_lenS rfl rfl Tryd.underlying64 rfl rfl trivial) ?_
  refine st rfl rfl rfl (op_moveO rfl rfl) ?_
  refine AOps_nil ?_
  refine AWp_block ?_
  -- loop 0 LIVE 2:assign 3:assign 6:move 7:call 8:move
  refine AWp_loop (ι := Nat) (fun i => i ≤ 2 ∧ (1 ≤ i → a = 0) ∧ (2 ≤ i → b = 0)) (fun i => ⟨[], [(6, .sl true 1 [[.int .i64 a], [.int .i64 b]]), (3, .int .i64 0), (7, .int .i64 2), (8, .int .i64 (i : Int))]⟩) (fun i => σ) (fun i => 2 - i) (0) (⟨by omega, fun h => by omega, fun h => by omega⟩) ?_ rfl (fun i hi => ?_)
  · exact ⟨rfl, rfl, rfl, rfl, rfl, trivial⟩
  obtain ⟨hi1, hi2, hi3⟩ := hi
  refine AWp_seq ?_
  -- region 3 cmp.go:71
  refine AWp_regL ?_
  refine st rfl rfl rfl (op_lss rfl rfl rfl) ?_
  refine AOps_nil ?_
  refine AWp_seq ?_
  refine AWp_cond rfl (fun h1 => ?_) (fun h1 => ?_)
  · (try rw [h1]); (try simp only [decide_eq_true_eq, decide_eq_false_iff_not, Bool.not_eq_true', Bool.not_eq_false', Int.not_lt, Int.not_le, Bool.not_true, Bool.not_false, Int.toNat_natCast, bne_iff_ne, beq_iff_eq, beq_eq_false_iff_ne, ne_eq, Decidable.not_not] at h1)
    refine AWp_skip ?_
    refine AWp_seq ?_
    refine AWp_block ?_
    refine AWp_seq ?_
    -- region 4 cmp.go:71
    refine AWp_regL ?_
    refine st rfl rfl rfl (op_indexAddr rfl Tryd.underlying64 Tryd.sizeOf3 rfl rfl (by omega) (two_row (by omega))) ?_
    refine st rfl rfl rfl (op_load1 rfl Tryd.isAgg3 (by first | exact ldv_own rfl rfl | exact ldv_pp rfl | exact ldv_old (by assumption) rfl | exact ldv_ptr (by assumption) rfl)) ?_
    refine st rfl rfl rfl (op_assignO rfl rfl) ?_
    simp only [Int.toNat_natCast]
    refine AOps_nil ?_
    refine AWp_seq ?_
    -- region 5 cmp.go:72
    refine AWp_regL ?_
    refine st rfl rfl rfl (op_moveO rfl rfl) ?_
    refine st rfl rfl rfl (op_moveO rfl rfl) ?_
    refine st rfl rfl rfl (op_neq rfl rfl rfl) ?_
    refine AOps_nil ?_
    refine AWp_cond rfl (fun h2 => ?_) (fun h2 => ?_)
    · (try rw [h2]); (try simp only [decide_eq_true_eq, decide_eq_false_iff_not, Bool.not_eq_true', Bool.not_eq_false', Int.not_lt, Int.not_le, Bool.not_true, Bool.not_false, Int.toNat_natCast, bne_iff_ne, beq_iff_eq, beq_eq_false_iff_ne, ne_eq, Decidable.not_not] at h2)
      refine AWp_seq ?_
      -- region 6 cmp.go:73
      refine AWp_regL ?_
      refine st rfl rfl rfl (op_moveO rfl rfl) ?_
      refine st rfl rfl rfl (op_assignO rfl rfl) ?_
      refine AOps_nil ?_
      refine AWp_ret ?_
      (try simp only [blockQ, thenQ])
      refine ResQ_10 rfl hcl trivial (Ret_of ?_)
      congr 1
      by_cases e : i = 0
      · rw [if_pos e] at h2 ⊢; rw [if_neg h2]
      · rw [if_neg e] at h2 ⊢; rw [if_pos (hi2 (by omega))]
    · (try rw [h2]); (try simp only [decide_eq_true_eq, decide_eq_false_iff_not, Bool.not_eq_true', Bool.not_eq_false', Int.not_lt, Int.not_le, Bool.not_true, Bool.not_false, Int.toNat_natCast, bne_iff_ne, beq_iff_eq, beq_eq_false_iff_ne, ne_eq, Decidable.not_not] at h2)
      refine AWp_skip ?_
      -- region 7 cmp.go:71
      refine AWp_regL ?_
      refine st rfl rfl rfl (op_add64 rfl rfl rfl (by omega) (by omega)) ?_
      refine st rfl rfl rfl (op_moveO rfl rfl) ?_
      refine AOps_nil ?_
      refine ⟨i + 1, σ.length, ⟨by omega, fun _ => ?_, fun _ => ?_⟩, by omega, Nat.le_refl _, ⟨rfl, rfl, rfl, rfl, rfl, trivial⟩, hcl, ?_, List.take_length⟩
      · by_cases e : i = 0
        · rw [if_pos e] at h2; exact h2
        · exact hi2 (by omega)
      · have e : ¬ i = 0 := by omega
        rw [if_neg e] at h2; exact h2
      · simp [ltE, AV.lt, AV.ltL, AV.ltLL]
  · (try rw [h1]); (try simp only [decide_eq_true_eq, decide_eq_false_iff_not, Bool.not_eq_true', Bool.not_eq_false', Int.not_lt, Int.not_le, Bool.not_true, Bool.not_false, Int.toNat_natCast, bne_iff_ne, beq_iff_eq, beq_eq_false_iff_ne, ne_eq, Decidable.not_not] at h1)
    refine AWp_exit ?_
    refine AWp_seq ?_
    -- region 8 cmp.go:76
    refine AWp_regL ?_
    refine st rfl rfl rfl (op_moveO rfl rfl) ?_
    refine st rfl rfl rfl (op_assignO rfl rfl) ?_
    refine AOps_nil ?_
    refine AWp_ret ?_
    (try simp only [blockQ, thenQ])
    refine ResQ_10 rfl hcl trivial (Ret_of ?_)
    congr 1; rw [if_pos (hi2 (by omega)), hi3 (by omega)]

theorem pcmp_c (a b : JNum) (σ : List AO) (ha : a.digits.size ≤ 1000000 ∧ -1000000 ≤ a.exp ∧ a.exp ≤ 1000000) (hb : b.digits.size ≤ 1000000 ∧ -1000000 ≤ b.exp ∧ b.exp ≤ 1000000) : ACalls Tryd.prog 15 [.agg (ncells a), .agg (ncells b)] σ (Ret (.int .i64 (pCmp a b)) σ) := by
  refine ACalls_body Tryd.func15 rfl Tryd.ntmps15 (res1 Tryd.results15) (Nat.le_of_ble_eq_true rfl) (fun hcl hal => ?_)
  have hja : jsign a = 0 ∨ jsign a = -1 ∨ jsign a = 1 := by unfold jsign; split <;> (try split) <;> simp
  have hcI : ∀ x y, cmpI x y = 0 ∨ cmpI x y = -1 ∨ cmpI x y = 1 := fun x y => by unfold cmpI; split <;> (try split) <;> simp
  have hcS : cmpS a.digits b.digits = 0 ∨ cmpS a.digits b.digits = -1 ∨ cmpS a.digits b.digits = 1 := by unfold cmpS; split <;> (try split) <;> simp
  have hc1 := hcI (a.digits.size + a.exp) (b.digits.size + b.exp)
  refine AWp_seq ?_
  -- region 0 num.go:107
  refine AWp_regL ?_
  refine st rfl rfl rfl (op_box0 (cs := [_, _, _]) rfl rfl rfl) ?_
  refine st rfl rfl rfl (op_boxO (cs := [_, _, _]) 1 rfl rfl rfl rfl) ?_
  refine st rfl rfl rfl (op_assignO rfl rfl) ?_
  refine AOps_nil ?_
  refine AWp_seq ?_
  -- region 1 num.go:108
  refine AWp_regL ?_
  refine st rfl rfl rfl (op_loadK (cs := [_, _, _]) rfl Tryd.isAgg24 Tryd.sizeOf24 (by first | exact ldv_own rfl rfl | exact ldv_pp rfl | exact ldv_old (by assumption) rfl | exact ldv_ptr (by assumption) rfl)) ?_
  refine st rfl rfl rfl (op_callF rfl rfl rfl Tryd.func26 rfl rfl (sign_c a _)) ?_
  refine st rfl rfl rfl (op_assignO rfl rfl) ?_
  refine AOps_nil ?_
  refine AWp_seq ?_
  refine AWp_seq ?_
  -- region 2 num.go:109
  refine AWp_regL ?_
  refine st rfl rfl rfl (op_moveO rfl rfl) ?_
  refine st rfl rfl rfl (op_loadK (cs := [_, _, _]) rfl Tryd.isAgg24 Tryd.sizeOf24 (by first | exact ldv_own rfl rfl | exact ldv_pp rfl | exact ldv_old (by assumption) rfl | exact ldv_ptr (by assumption) rfl)) ?_
  refine st rfl rfl rfl (op_callF rfl rfl rfl Tryd.func26 rfl rfl (sign_c b _)) ?_
  refine st rfl rfl rfl (op_neq rfl rfl rfl) ?_
  refine AOps_nil ?_
  refine AWp_cond rfl (fun h1 => ?_) (fun h1 => ?_)
  · (try rw [h1]); (try simp only [decide_eq_true_eq, decide_eq_false_iff_not, Bool.not_eq_true', Bool.not_eq_false', Int.not_lt, Int.not_le, Bool.not_true, Bool.not_false, Int.toNat_natCast, bne_iff_ne, beq_iff_eq, beq_eq_false_iff_ne, ne_eq, Decidable.not_not] at h1)
    refine AWp_seq ?_
    -- region 3 num.go:110
    refine AWp_regL ?_
    refine st rfl rfl rfl (op_moveO rfl rfl) ?_
    refine st rfl rfl rfl (op_loadK (cs := [_, _, _]) rfl Tryd.isAgg24 Tryd.sizeOf24 (by first | exact ldv_own rfl rfl | exact ldv_pp rfl | exact ldv_old (by assumption) rfl | exact ldv_ptr (by assumption) rfl)) ?_
    refine st rfl rfl rfl (op_callF rfl rfl rfl Tryd.func26 rfl rfl (sign_c b _)) ?_
    refine st rfl rfl rfl (op_callF rfl rfl rfl Tryd.func27 rfl rfl (cmpI_c (jsign a) (jsign b) _)) ?_
    refine st rfl rfl rfl (op_assignO rfl rfl) ?_
    refine AOps_nil ?_
    refine AWp_ret ?_
    (try simp only [blockQ, thenQ])
    refine ResQ_1 rfl hcl trivial (Ret_of ?_)
    congr 1; unfold pCmp; rw [if_neg h1]
  · (try rw [h1]); (try simp only [decide_eq_true_eq, decide_eq_false_iff_not, Bool.not_eq_true', Bool.not_eq_false', Int.not_lt, Int.not_le, Bool.not_true, Bool.not_false, Int.toNat_natCast, bne_iff_ne, beq_iff_eq, beq_eq_false_iff_ne, ne_eq, Decidable.not_not] at h1)
    refine AWp_skip ?_
    refine AWp_seq ?_
    -- region 4 num.go:112 DRAWN
    refine AWp_drawL #[0, 0, 2, 6, 0, 16, 62, 0, 128, 384, 0, 1024, 3968, 8190, 0, 16384, 0, 65536, 262142, 524286, 1048574, 2097151, 4194303] Tryd.mixed (by decide +kernel) (by decide +kernel) ?_
    refine rA rfl rfl rfl rfl (fun _ => op_moveO rfl rfl) ?_
    refine rA rfl rfl rfl rfl (fun _ => op_fieldAddrO (fo := 1) rfl Tryd.underlying24 rfl rfl Tryd.sizeOf9 (by decide) rfl trivial) ?_
    refine rP rfl rfl rfl rfl (op_load1 rfl Tryd.isAgg9 (by first | exact ldv_own rfl rfl | exact ldv_pp rfl | exact ldv_old (by assumption) rfl | exact ldv_ptr (by assumption) rfl)) (trivial) ?_
    refine rA rfl rfl rfl rfl (fun _ => op_lenStr rfl rfl Tryd.underlying9 rfl) ?_
    refine rA rfl rfl rfl rfl (fun _ => op_fieldAddrO (fo := 2) rfl Tryd.underlying24 rfl rfl Tryd.sizeOf3 (by decide) rfl trivial) ?_
    refine rP rfl rfl rfl rfl (op_load1 rfl Tryd.isAgg3 (by first | exact ldv_own rfl rfl | exact ldv_pp rfl | exact ldv_old (by assumption) rfl | exact ldv_ptr (by assumption) rfl)) (trivial) ?_
    refine rA rfl rfl rfl rfl (fun _ => op_add64 rfl rfl rfl (by omega) (by omega)) ?_
    refine rA rfl rfl rfl rfl (fun _ => op_fieldAddrO (fo := 1) rfl Tryd.underlying24 rfl rfl Tryd.sizeOf9 (by decide) rfl trivial) ?_
    refine rP rfl rfl rfl rfl (op_load1 rfl Tryd.isAgg9 (by first | exact ldv_own rfl rfl | exact ldv_pp rfl | exact ldv_old (by assumption) rfl | exact ldv_ptr (by assumption) rfl)) (trivial) ?_
    refine rA rfl rfl rfl rfl (fun _ => op_lenStr rfl rfl Tryd.underlying9 rfl) ?_
    refine rA rfl rfl rfl rfl (fun _ => op_fieldAddrO (fo := 2) rfl Tryd.underlying24 rfl rfl Tryd.sizeOf3 (by decide) rfl trivial) ?_
    refine rP rfl rfl rfl rfl (op_load1 rfl Tryd.isAgg3 (by first | exact ldv_own rfl rfl | exact ldv_pp rfl | exact ldv_old (by assumption) rfl | exact ldv_ptr (by assumption) rfl)) (trivial) ?_
    refine rA rfl rfl rfl rfl (fun _ => op_add64 rfl rfl rfl (by omega) (by omega)) ?_
    refine rP rfl rfl rfl rfl (op_callF rfl rfl rfl Tryd.func27 rfl rfl (cmpI_c (a.digits.size + a.exp) (b.digits.size + b.exp) _)) (trivial) ?_
    refine rA rfl rfl rfl rfl (fun _ => op_fieldAddrO (fo := 1) rfl Tryd.underlying24 rfl rfl Tryd.sizeOf9 (by decide) rfl trivial) ?_
    refine rP rfl rfl rfl rfl (op_load1 rfl Tryd.isAgg9 (by first | exact ldv_own rfl rfl | exact ldv_pp rfl | exact ldv_old (by assumption) rfl | exact ldv_ptr (by assumption) rfl)) (trivial) ?_
    refine rA rfl rfl rfl rfl (fun _ => op_fieldAddrO (fo := 1) rfl Tryd.underlying24 rfl rfl Tryd.sizeOf9 (by decide) rfl trivial) ?_
    refine rP rfl rfl rfl rfl (op_load1 rfl Tryd.isAgg9 (by first | exact ldv_own rfl rfl | exact ldv_pp rfl | exact ldv_old (by assumption) rfl | exact ldv_ptr (by assumption) rfl)) (trivial) ?_
    refine rP rfl rfl rfl rfl (op_callF rfl rfl rfl Tryd.func29 rfl rfl (cmpS_c a.digits b.digits _)) (trivial) ?_
    refine rA rfl rfl rfl rfl (fun _ => op_buildSlice [[_], [_]] rfl Tryd.underlying64 Tryd.sizeOf3 Tryd.zeroValue3 rfl (by decide) (by decide) rfl rfl rfl rfl rfl) ?_
    refine rP rfl rfl rfl rfl (op_callF rfl rfl rfl Tryd.func28 rfl rfl (cmpOr_c (cmpI (a.digits.size + a.exp) (b.digits.size + b.exp)) (cmpS a.digits b.digits) _)) (trivial) ?_
    refine rA rfl rfl rfl rfl (fun _ => op_mul64 rfl rfl rfl (by rcases hja with h | h | h <;> rw [h] <;> split <;> omega) (by rcases hja with h | h | h <;> rw [h] <;> split <;> omega)) ?_
    refine rA rfl rfl rfl rfl (fun _ => op_assignO rfl rfl) ?_
    refine RP.nil rfl ?_
    refine AWp_ret ?_
    (try simp only [blockQ, thenQ])
    refine ResQ_1 rfl hcl trivial (Ret_of ?_)
    congr 1; unfold pCmp; rw [if_pos h1]

theorem pwhole_c (n : JNum) (σ : List AO) : ACalls Tryd.prog 13 [.agg (ncells n)] σ (Ret (.bool (decide (0 ≤ n.exp))) σ) := by
  refine ACalls_body Tryd.func13 rfl Tryd.ntmps13 (res1 Tryd.results13) (Nat.le_of_ble_eq_true rfl) (fun hcl hal => ?_)
  refine AWp_seq ?_
  -- region 0 num.go:116
  refine AWp_regL ?_
  refine st rfl rfl rfl (op_box0 (cs := [_, _, _]) rfl rfl rfl) ?_
  refine st rfl rfl rfl (op_assignO rfl rfl) ?_
  refine AOps_nil ?_
  refine AWp_seq ?_
  -- region 1 num.go:116
  refine AWp_regL ?_
  refine st rfl rfl rfl (op_fieldAddrO (fo := 2) rfl Tryd.underlying24 rfl rfl Tryd.sizeOf3 (by decide) rfl trivial) ?_
  refine st rfl rfl rfl (op_load1 rfl Tryd.isAgg3 (by first | exact ldv_own rfl rfl | exact ldv_pp rfl | exact ldv_old (by assumption) rfl | exact ldv_ptr (by assumption) rfl)) ?_
  refine st rfl rfl rfl (op_geq rfl rfl rfl) ?_
  refine st rfl rfl rfl (op_assignO rfl rfl) ?_
  refine AOps_nil ?_
  refine AWp_ret ?_
  (try simp only [blockQ, thenQ])
  exact ResQ_1 rfl hcl trivial (Ret_of rfl)

theorem rwhole_c (n : JNum) (σ : List AO) : ACalls Tryd.prog 14 [.agg (ncells n)] σ (Ret (.bool (rWhole n)) σ) := by
  refine ACalls_body Tryd.func14 rfl Tryd.ntmps14 (res1 Tryd.results14) (Nat.le_of_ble_eq_true rfl) (fun hcl hal => ?_)
  refine AWp_seq ?_
  -- region 0 ref.go:198
  refine AWp_regL ?_
  refine st rfl rfl rfl (op_box0 (cs := [_, _, _]) rfl rfl rfl) ?_
  refine st rfl rfl rfl (op_assignO rfl rfl) ?_
  refine AOps_nil ?_
  refine AWp_seq ?_
  -- region 1 ref.go:198
  refine AWp_regL ?_
  refine st rfl rfl rfl (op_fieldAddrO (fo := 1) rfl Tryd.underlying24 rfl rfl Tryd.sizeOf9 (by decide) rfl trivial) ?_
  refine st rfl rfl rfl (op_load1 rfl Tryd.isAgg9 (by first | exact ldv_own rfl rfl | exact ldv_pp rfl | exact ldv_old (by assumption) rfl | exact ldv_ptr (by assumption) rfl)) ?_
  refine st rfl rfl rfl (op_seql rfl rfl rfl) ?_
  refine st rfl rfl rfl (op_moveO rfl rfl) ?_
  refine AOps_split 6 rfl (fun h1 => ?_) (fun h1 => ?_)
  · rw [h1]; (try simp only [decide_eq_true_eq, decide_eq_false_iff_not, Bool.not_eq_true', Bool.not_eq_false', Int.not_lt, Int.not_le, Bool.not_true, Bool.not_false, Int.toNat_natCast, bne_iff_ne, beq_iff_eq, beq_eq_false_iff_ne, ne_eq, Decidable.not_not] at h1)
    refine stS rfl rfl rfl (.inl rfl) rfl rfl ?_
    refine stS rfl rfl rfl (.inl rfl) rfl rfl ?_
    refine stS rfl rfl rfl (.inl rfl) rfl rfl ?_
    refine st rfl rfl rfl (op_pickTO rfl rfl rfl) ?_
    refine st rfl rfl rfl (op_assignO rfl rfl) ?_
    refine AOps_nil ?_
    refine AWp_ret ?_
    (try simp only [blockQ, thenQ])
    refine ResQ_1 rfl hcl trivial (Ret_of ?_)
    congr 1; unfold rWhole; simp [*]
  · rw [h1]; (try simp only [decide_eq_true_eq, decide_eq_false_iff_not, Bool.not_eq_true', Bool.not_eq_false', Int.not_lt, Int.not_le, Bool.not_true, Bool.not_false, Int.toNat_natCast, bne_iff_ne, beq_iff_eq, beq_eq_false_iff_ne, ne_eq, Decidable.not_not] at h1)
    refine stG rfl rfl rfl rfl rfl rfl (op_fieldAddrO (fo := 2) rfl Tryd.underlying24 rfl rfl Tryd.sizeOf3 (by decide) rfl trivial) ?_
    refine stG rfl rfl rfl rfl rfl rfl (op_load1 rfl Tryd.isAgg3 (by first | exact ldv_own rfl rfl | exact ldv_pp rfl | exact ldv_old (by assumption) rfl | exact ldv_ptr (by assumption) rfl)) ?_
    refine stG rfl rfl rfl rfl rfl rfl (op_geq rfl rfl rfl) ?_
    refine st rfl rfl rfl (op_pickFO rfl rfl rfl) ?_
    refine st rfl rfl rfl (op_assignO rfl rfl) ?_
    refine AOps_nil ?_
    refine AWp_ret ?_
    (try simp only [blockQ, thenQ])
    refine ResQ_1 rfl hcl trivial (Ret_of ?_)
    congr 1; unfold rWhole; simp [*]

theorem zer_succ (i : Nat) : ba (List.replicate i 48) ++ (⟨#[48]⟩ : ByteArray) = ba (List.replicate (i + 1) 48) := by
  have : (⟨#[48]⟩ : ByteArray) = ba [48] := rfl
  rw [this, ba_app, List.replicate_succ']
theorem zeros_c (k : Int) (σ : List AO) (hk : k ≤ 1000000000) : ACalls Tryd.prog 46 [.int .i64 k] σ (Ret (.str (ba (zer k))) σ) := by
  refine ACalls_body Tryd.func46 rfl Tryd.ntmps46 (res1 Tryd.results46) (Nat.le_of_ble_eq_true rfl) (fun hcl hal => ?_)
  refine AWp_seq ?_
  -- region 0 ref.go:151
  refine AWp_regL ?_
  refine st rfl rfl rfl (op_assignO rfl rfl) ?_
  refine AOps_nil ?_
  refine AWp_seq ?_
  -- region 1 ref.go:152
  refine AWp_regL ?_
  refine st rfl rfl rfl (op_assignO rfl rfl) ?_
  refine AOps_nil ?_
  refine AWp_seq ?_
  refine AWp_seq ?_
  -- region 2 ref.go:153
  refine AWp_regL ?_
  refine st rfl rfl rfl (op_assignO rfl rfl) ?_
  refine AOps_nil ?_
  refine AWp_block ?_
  -- loop 0 LIVE 0:param 2:assign 3:assign 4:assign
  refine AWp_loop (ι := Nat) (fun i => i ≤ k.toNat) (fun i => ⟨[], [(0, .int .i64 k), (3, .str (ba (List.replicate i 48))), (4, .int .i64 (i : Int))]⟩) (fun i => σ) (fun i => k.toNat - i) (0) (Nat.zero_le _) ?_ rfl (fun i hi => ?_)
  · exact ⟨rfl, rfl, rfl, rfl, trivial⟩
  have hbs : (ba (List.replicate i 48)).size = i := by rw [ba_size]; simp
  have h1s : (ByteArray.mk #[48]).size = 1 := rfl
  refine AWp_seq ?_
  refine AWp_seq ?_
  -- region 3 ref.go:153
  refine AWp_regL ?_
  refine st rfl rfl rfl (op_moveO rfl rfl) ?_
  refine st rfl rfl rfl (op_moveO rfl rfl) ?_
  refine st rfl rfl rfl (op_lss rfl rfl rfl) ?_
  refine AOps_nil ?_
  refine AWp_cond rfl (fun h1 => ?_) (fun h1 => ?_)
  · (try rw [h1]); (try simp only [decide_eq_true_eq, decide_eq_false_iff_not, Bool.not_eq_true', Bool.not_eq_false', Int.not_lt, Int.not_le, Bool.not_true, Bool.not_false, Int.toNat_natCast, bne_iff_ne, beq_iff_eq, beq_eq_false_iff_ne, ne_eq, Decidable.not_not] at h1)
    refine AWp_skip ?_
    refine AWp_seq ?_
    refine AWp_block ?_
    -- region 5 ref.go:154
    refine AWp_regL ?_
    refine st rfl rfl rfl (op_moveO rfl rfl) ?_
    refine st rfl rfl rfl (op_cat rfl rfl rfl (by omega)) ?_
    refine st rfl rfl rfl (op_assignO rfl rfl) ?_
    refine AOps_nil ?_
    -- region 4 ref.go:153
    refine AWp_regL ?_
    refine st rfl rfl rfl (op_moveO rfl rfl) ?_
    refine st rfl rfl rfl (op_add64 rfl rfl rfl (by omega) (by omega)) ?_
    refine st rfl rfl rfl (op_assignO rfl rfl) ?_
    refine AOps_nil ?_
    refine ⟨i + 1, σ.length, by omega, by omega, Nat.le_refl _, ⟨rfl, rfl, ?_, rfl, trivial⟩, hcl, ?_, List.take_length⟩
    · rw [← zer_succ]; rfl
    · simp [ltE, AV.lt]
  · (try rw [h1]); (try simp only [decide_eq_true_eq, decide_eq_false_iff_not, Bool.not_eq_true', Bool.not_eq_false', Int.not_lt, Int.not_le, Bool.not_true, Bool.not_false, Int.toNat_natCast, bne_iff_ne, beq_iff_eq, beq_eq_false_iff_ne, ne_eq, Decidable.not_not] at h1)
    refine AWp_exit ?_
    refine AWp_seq ?_
    -- region 6 ref.go:156
    refine AWp_regL ?_
    refine st rfl rfl rfl (op_moveO rfl rfl) ?_
    refine st rfl rfl rfl (op_assignO rfl rfl) ?_
    refine AOps_nil ?_
    refine AWp_ret ?_
    (try simp only [blockQ, thenQ])
    refine ResQ_10 rfl hcl trivial (Ret_of ?_)
    unfold zer; rw [show k.toNat = i by omega]

end Lg
