/- A part of the proof of For every text and every number the law TreeBuilds answers true, and both read afterwards as before; no condition.: Ln1 Ln2 Ln3 Ln4 Ln5 Ln6 Ln7 Ln8 Lq1 Lk1 Lk2 Lk3 Lk4 Lk5 Lg44 Lk6 Lk7 Lg45 Lk9 Lt1 Lg46 Lt2 Lt3 Lg47. -/
import Derived.Test.YtjnofdnoboibpaaP4
import Derived.Test.YtjnofdnoboibpaaP2
import Derived.Test.YtjnofdnoboibpaaP3
import Derived.Lib.ItoaNum
import Derived.Lib.Atoi
import Derived.MapKept
import Derived.Laws.CopyRow
set_option linter.unusedVariables false
set_option linter.unusedSimpArgs false
set_option linter.unusedSectionVars false
namespace Lg
open Go
/-! ### A number's text as a list -/
abbrev BL := List UInt8
def isD (b : UInt8) : Bool := decide (48 ≤ b.toNat) && decide (b.toNat ≤ 57)
theorem isD_iff (b : UInt8) : isD b = true ↔ 48 ≤ b.toNat ∧ b.toNat ≤ 57 := by simp [isD]
theorem bat_list {s : ByteArray} {i : Nat} (h : i < s.size) : s.data.toList.drop i = bat s i :: s.data.toList.drop (i + 1) := by
  have h' : i < s.data.toList.length := by rw [Array.length_toList]; exact h
  rw [List.drop_eq_getElem_cons h']
  congr 1
  unfold bat
  rw [List.getD_eq_getElem?_getD, List.getElem?_eq_getElem h']; rfl
theorem drop_end {s : ByteArray} {i : Nat} (h : s.size ≤ i) : s.data.toList.drop i = [] := List.drop_eq_nil_of_le (by rw [Array.length_toList]; exact h)
theorem runl_tw (s : ByteArray) (i : Nat) : runl s i = ((s.data.toList.drop i).takeWhile isD).length := by
  by_cases h : i < s.size ∧ dig s i
  · rw [runl_yes h.1 h.2, bat_list h.1, List.takeWhile_cons, if_pos ((isD_iff _).2 h.2), List.length_cons, runl_tw s (i + 1)]
  · rw [runl_no h]
    by_cases h1 : i < s.size
    · rw [bat_list h1, List.takeWhile_cons, if_neg (fun e => h ⟨h1, (isD_iff _).1 e⟩)]; rfl
    · rw [drop_end (by omega)]; rfl
termination_by s.size - i
theorem nloop_fold (s : ByteArray) (i : Nat) (t : NSt) : nloop s i t = (s.data.toList.drop i).foldl (fun t b => nstep b.toNat t) t := by
  by_cases h : i < s.size
  · rw [nloop, if_pos h, bat_list h, List.foldl_cons, nloop_fold s (i + 1)]
  · rw [nl0 (by omega), drop_end (by omega)]; rfl
termination_by s.size - i
/-! #### What End takes, by suffixes -/
def strip (c : Nat) : BL → BL
  | [] => []
  | b :: r => if b.toNat = c then r else b :: r
def xPow : BL → BL × Bool
  | [] => ([], true)
  | b :: r => if b.toNat = 101 ∨ b.toNat = 69 then
      (let q := match r with
        | [] => []
        | c :: r' => if c.toNat = 43 ∨ c.toNat = 45 then r' else c :: r'
       (q.dropWhile isD, !(q.takeWhile isD).isEmpty)) else (b :: r, true)
def xFrac : BL → BL × Bool
  | [] => xPow []
  | b :: r => if b.toNat = 46 then (if (r.takeWhile isD).isEmpty then (r, false) else xPow (r.dropWhile isD)) else xPow (b :: r)
def xInt (l : BL) : BL × Bool := if (l.takeWhile isD).isEmpty then (l, false) else
  xFrac (match l with
    | [] => []
    | b :: r => if b.toNat = 48 then r else l.dropWhile isD)
def xEnd (l : BL) : BL × Bool := xInt (strip 45 l)
theorem dropWhile_drop (l : BL) : l.dropWhile isD = l.drop (l.takeWhile isD).length := by
  induction l with
  | nil => rfl
  | cons b r ih =>
    by_cases h : isD b = true
    · simp [List.dropWhile_cons, List.takeWhile_cons, h, ih]
    · simp [List.dropWhile_cons, List.takeWhile_cons, h]
def AtP (s : ByteArray) (p : Nat × Bool) (x : BL × Bool) : Prop := p.1 ≤ s.size ∧ s.data.toList.drop p.1 = x.1 ∧ p.2 = x.2
theorem tw_empty (s : ByteArray) (i : Nat) : ((s.data.toList.drop i).takeWhile isD).isEmpty = decide (runl s i = 0) := by
  rw [runl_tw]; cases (s.data.toList.drop i).takeWhile isD <;> simp
theorem dw_run (s : ByteArray) (i : Nat) : (s.data.toList.drop i).dropWhile isD = s.data.toList.drop (i + runl s i) := by
  rw [dropWhile_drop, ← runl_tw, List.drop_drop]
theorem eSg_list {s : ByteArray} {i : Nat} (h : i ≤ s.size) : s.data.toList.drop (eSg s i) = (match s.data.toList.drop i with
        | [] => []
        | c :: r' => if c.toNat = 43 ∨ c.toNat = 45 then r' else c :: r') := by
  unfold eSg
  by_cases h1 : i < s.size
  · rw [bat_list h1]
    by_cases h2 : (bat s i).toNat = 43 ∨ (bat s i).toNat = 45
    · rw [if_pos ⟨h1, h2⟩]; simp only [h2, if_true]
    · rw [if_neg (fun h => h2 h.2)]; simp only [h2, if_false]; exact bat_list h1
  · rw [drop_end (s := s) (i := i) (by omega), if_neg (fun h => h1 h.1)]; exact drop_end (by omega)
theorem ePow_list {s : ByteArray} {i : Nat} (h : i ≤ s.size) : AtP s (ePow s i) (xPow (s.data.toList.drop i)) := by
  have hle := ePow_le h
  refine ⟨hle.2, ?_⟩
  unfold ePow
  by_cases h1 : i < s.size
  · rw [bat_list h1]
    by_cases h2 : (bat s i).toNat = 101 ∨ (bat s i).toNat = 69
    · rw [if_pos ⟨h1, h2⟩]
      simp only [xPow, h2, if_true, ← eSg_list (show i + 1 ≤ s.size from h1), tw_empty, dw_run]
      by_cases h3 : runl s (eSg s (i + 1)) = 0
      · simp [h3]
      · simp [h3]
    · rw [if_neg (fun h => h2 h.2)]; simp only [xPow, h2, if_false]; exact ⟨bat_list h1, trivial⟩
  · rw [drop_end (s := s) (i := i) (by omega), if_neg (fun h => h1 h.1)]; exact ⟨drop_end (by omega), rfl⟩
theorem eFrac_list {s : ByteArray} {i : Nat} (h : i ≤ s.size) : AtP s (eFrac s i) (xFrac (s.data.toList.drop i)) := by
  unfold eFrac
  by_cases h1 : i < s.size
  · by_cases h2 : (bat s i).toNat = 46
    · rw [if_pos ⟨h1, h2⟩, bat_list h1]
      simp only [xFrac, h2, if_true, tw_empty, dw_run]
      have hr := runl_le s (i + 1)
      by_cases h3 : runl s (i + 1) = 0
      · simp only [h3, decide_true, if_true]; exact ⟨h1, rfl, rfl⟩
      · simp only [h3, decide_false, Bool.false_eq_true, if_false]; exact ePow_list (by omega)
    · rw [if_neg (fun h => h2 h.2)]
      have := ePow_list h
      rw [bat_list h1] at this ⊢
      simp only [xFrac, h2, if_false]; exact this
  · rw [if_neg (fun h => h1 h.1)]
    have := ePow_list h
    rw [drop_end (s := s) (i := i) (by omega)] at this ⊢
    exact this
theorem rEnd_list (s : ByteArray) : AtP s (rEnd s 0) (xEnd s.data.toList) := by
  have h0 : s.data.toList.drop (eSign s 0) = strip 45 s.data.toList := by
    unfold eSign
    by_cases h1 : 0 < s.size
    · have hb := bat_list h1
      rw [List.drop_zero] at hb
      by_cases h2 : (bat s 0).toNat = 45
      · rw [if_pos ⟨h1, h2⟩]; rw [hb]; simp only [strip, h2, if_true]; rw [← hb]
      · rw [if_neg (fun h => h2 h.2), List.drop_zero, hb]; simp only [strip, h2, if_false]
    · have hb := drop_end (s := s) (i := 0) (by omega)
      rw [List.drop_zero] at hb
      rw [if_neg (fun h => h1 h.1), hb]; rfl
  have hs := eSign_le (s := s) (Nat.zero_le _)
  unfold xEnd rEnd xInt
  rw [← h0, tw_empty]
  by_cases h3 : runl s (eSign s 0) = 0
  · simp only [h3, if_true, decide_true]; exact ⟨hs.2, rfl, rfl⟩
  · simp only [h3, if_false, decide_false, Bool.false_eq_true]
    have hi := eInt_le hs.2 h3
    have := eFrac_list (s := s) (i := eSign s 0 + eInt s (eSign s 0)) hi.2
    have hlt : eSign s 0 < s.size := by omega
    rw [dw_run]
    rw [bat_list hlt] at *
    unfold eInt at this ⊢
    by_cases h4 : (bat s (eSign s 0)).toNat = 48
    · simp only [h4, if_true] at this ⊢; exact this
    · simp only [h4, if_false] at this ⊢; exact this
end Lg
namespace Lg
open Go
/-! ### The program's own reading of a number -/
def pExp : BL → BL × Bool
  | [] => ([48], true)
  | b :: q => (strip 43 q, (decide (b.toNat = 101) || decide (b.toNat = 69)) && (!(strip 45 (strip 43 q)).isEmpty && (decide (((strip 45 (strip 43 q)).takeWhile isD).length = (strip 45 (strip 43 q)).length) && !(decide (strip 43 q ≠ q) && decide (strip 45 (strip 43 q) ≠ strip 43 q)))))
def pFrac : BL → Option (BL × BL)
  | [] => some ([], [])
  | b :: r => if b.toNat = 46 then (if (r.takeWhile isD).isEmpty then none else some (r.takeWhile isD, r.dropWhile isD)) else some ([], b :: r)
def pParts (l : BL) : BL × BL × BL × Bool :=
  if (l.takeWhile isD).length = 0 ∨ (1 < (l.takeWhile isD).length ∧ l.headD 0 = 48) then ([], [], [], false) else
  match pFrac (l.dropWhile isD) with
  | none => ([], [], [], false)
  | some (f, r) => (l.takeWhile isD, f, (pExp r).1, (pExp r).2)
theorem dw_nil {l : BL} : l.dropWhile isD = [] ↔ (l.takeWhile isD).length = l.length := by
  have h := congrArg List.length (List.takeWhile_append_dropWhile (p := isD) (l := l))
  rw [List.length_append] at h
  constructor
  · intro e; rw [e] at h; simpa using h
  · intro e; exact List.eq_nil_of_length_eq_zero (by omega)
theorem strip_ne {c : Nat} {b : UInt8} {r : BL} (h : ¬ b.toNat = c) : strip c (b :: r) = b :: r := by simp [strip, h]
theorem strip_eq {c : Nat} {b : UInt8} {r : BL} (h : b.toNat = c) : strip c (b :: r) = r := by simp [strip, h]
theorem xPow_iff (r : BL) : xPow r = ([], true) ↔ (pExp r).2 = true := by
  cases r with
  | nil => simp [xPow, pExp]
  | cons b q =>
    by_cases he : b.toNat = 101 ∨ b.toNat = 69
    · have he' : (decide (b.toNat = 101) || decide (b.toNat = 69)) = true := by simpa using he
      simp only [xPow, he, if_true, pExp, he', Bool.true_and]
      have key : ∀ m : BL, ((m.dropWhile isD, !(m.takeWhile isD).isEmpty) = (([], true) : BL × Bool)) ↔ (!m.isEmpty && decide ((m.takeWhile isD).length = m.length)) = true := by
        intro m
        simp only [Prod.mk.injEq, dw_nil, Bool.and_eq_true, decide_eq_true_eq, Bool.not_eq_true']
        constructor
        · rintro ⟨h1, h2⟩
          refine ⟨?_, h1⟩
          cases m with
          | nil => simp at h2
          | cons => rfl
        · rintro ⟨h1, h2⟩
          refine ⟨h2, ?_⟩
          cases m with
          | nil => simp at h1
          | cons x m =>
            cases ht : (x :: m).takeWhile isD with
            | nil => rw [ht] at h2; simp at h2
            | cons => rfl
      cases q with
      | nil => simp [strip]
      | cons c q2 =>
        by_cases h43 : c.toNat = 43
        · have h45 : ¬ c.toNat = 45 := by omega
          rw [strip_eq h43]
          simp only [h43, true_or, if_true]
          rw [key]
          have hne : (decide (q2 ≠ c :: q2)) = true := by
            simp only [ne_eq, decide_eq_true_eq]; intro e; have := congrArg List.length e; simp at this
          rw [hne]
          cases q2 with
          | nil => simp [strip]
          | cons d q3 =>
            by_cases hd : d.toNat = 45
            · rw [strip_eq hd]
              have hdn : isD d = false := by simp [isD]; omega
              have hq : decide (q3 ≠ d :: q3) = true := by
                simp only [ne_eq, decide_eq_true_eq]; intro e; have := congrArg List.length e; simp at this
              simp [hq, List.takeWhile_cons, hdn]
            · rw [strip_ne hd]; simp
        · rw [strip_ne h43]
          by_cases h45 : c.toNat = 45
          · simp only [h45, or_true, if_true]
            rw [key, strip_eq h45]; simp
          · have : ¬ (c.toNat = 43 ∨ c.toNat = 45) := by omega
            simp only [this, if_false]
            rw [key, strip_ne h45]; simp
    · have he' : (decide (b.toNat = 101) || decide (b.toNat = 69)) = false := by
        simp only [Bool.or_eq_false_iff, decide_eq_false_iff_not]; omega
      simp [xPow, he, pExp, he']
theorem xFrac_iff (r : BL) : xFrac r = ([], true) ↔ ∃ f r', pFrac r = some (f, r') ∧ (pExp r').2 = true := by
  cases r with
  | nil => exact ⟨fun _ => ⟨[], [], rfl, rfl⟩, fun _ => rfl⟩
  | cons b q =>
    by_cases h : b.toNat = 46
    · simp only [xFrac, h, if_true, pFrac]
      by_cases h2 : (q.takeWhile isD).isEmpty = true
      · simp [h2]
      · simp only [h2, Bool.false_eq_true, if_false]
        rw [xPow_iff]
        constructor
        · intro h3; exact ⟨_, _, rfl, h3⟩
        · rintro ⟨f, r', h3, h4⟩; simp only [Option.some.injEq, Prod.mk.injEq] at h3; rw [h3.2]; exact h4
    · simp only [xFrac, h, if_false, pFrac]
      rw [xPow_iff]
      constructor
      · intro h3; exact ⟨_, _, rfl, h3⟩
      · rintro ⟨f, r', h3, h4⟩; simp only [Option.some.injEq, Prod.mk.injEq] at h3; rw [h3.2]; exact h4
theorem xInt_iff (l : BL) : xInt l = ([], true) ↔ (pParts l).2.2.2 = true := by
  unfold xInt pParts
  cases l with
  | nil => simp
  | cons b r =>
    by_cases hb : isD b = true
    · have htw : (b :: r).takeWhile isD = b :: r.takeWhile isD := by simp [List.takeWhile_cons, hb]
      have hdw : (b :: r).dropWhile isD = r.dropWhile isD := by simp [List.dropWhile_cons, hb]
      rw [htw, hdw]
      simp only [List.isEmpty_cons, Bool.false_eq_true, if_false, List.length_cons, Nat.add_one_ne_zero, false_or, List.headD_cons]
      by_cases h48 : b.toNat = 48
      · have hb48 : b = 48 := UInt8.toNat_inj.1 h48
        subst hb48
        have e48 : UInt8.toNat 48 = 48 := rfl
        simp only [e48, if_true, and_true]
        cases r with
        | nil => simp [xFrac, xPow, pFrac, pExp]
        | cons c q =>
          by_cases hc : isD c = true
          · have hc2 := (isD_iff c).1 hc
            have h1 : ¬ c.toNat = 46 := by omega
            have h2 : ¬ (c.toNat = 101 ∨ c.toNat = 69) := by omega
            simp [xFrac, h1, xPow, h2, List.takeWhile_cons, hc]
          · have htw2 : (c :: q).takeWhile isD = [] := by simp [List.takeWhile_cons, hc]
            have hdw2 : (c :: q).dropWhile isD = c :: q := by simp [List.dropWhile_cons, hc]
            rw [htw2, hdw2]
            simp only [List.length_nil, Nat.lt_irrefl, if_false]
            rw [xFrac_iff]
            constructor
            · rintro ⟨f, r', h1, h2⟩; rw [h1]; exact h2
            · intro h
              cases hp : pFrac (c :: q) with
              | none => rw [hp] at h; simp at h
              | some p => obtain ⟨f, r'⟩ := p; rw [hp] at h; exact ⟨f, r', rfl, h⟩
      · have hb48 : ¬ b = 48 := fun e => h48 (by rw [e]; rfl)
        simp only [h48, if_false, hb48, and_false]
        rw [xFrac_iff]
        constructor
        · rintro ⟨f, r', h1, h2⟩; rw [h1]; exact h2
        · intro h
          cases hp : pFrac (r.dropWhile isD) with
          | none => rw [hp] at h; simp at h
          | some p => obtain ⟨f, r'⟩ := p; rw [hp] at h; exact ⟨f, r', rfl, h⟩
    · have htw : (b :: r).takeWhile isD = [] := by simp [List.takeWhile_cons, hb]
      rw [htw]; simp
/-- Is it a number's text? -/
theorem rEnd_iff (s : ByteArray) : ¬ ((rEnd s 0).2 = false ∨ ¬ (rEnd s 0).1 = s.size) ↔ (pParts (strip 45 s.data.toList)).2.2.2 = true := by
  have hl := rEnd_list s
  rw [← xInt_iff]
  change _ ↔ xEnd s.data.toList = ([], true)
  obtain ⟨h1, h2, h3⟩ := hl
  have hlen : s.data.toList.length = s.size := Array.length_toList
  constructor
  · intro h
    have h4 : (rEnd s 0).2 = true := by cases hb : (rEnd s 0).2 <;> simp_all
    have h5 : (rEnd s 0).1 = s.size := by by_cases e : (rEnd s 0).1 = s.size <;> simp_all
    rw [h5] at h2
    have h6 : xEnd s.data.toList = ((xEnd s.data.toList).1, (xEnd s.data.toList).2) := rfl
    rw [h6, ← h2, ← h3, h4, drop_end (Nat.le_refl _)]
  · intro h
    rw [h] at h2 h3
    have h5 : (rEnd s 0).1 = s.size := by
      have := congrArg List.length h2
      rw [List.length_drop] at this
      simp at this h1; omega
    simp only [not_or, Bool.not_eq_false, Decidable.not_not]
    exact ⟨h3, h5⟩
end Lg
namespace Lg
open Go
/-! ### What a number's text comes to -/
def ba (l : BL) : ByteArray := ⟨l.toArray⟩
theorem ba_toList (l : BL) : (ba l).data.toList = l := by simp [ba]
theorem ba_size (l : BL) : (ba l).size = l.length := by
  have : (ba l).data.toList.length = (ba l).size := Array.length_toList
  rw [← this, ba_toList]
theorem ba_ext {a b : ByteArray} (h : a.data.toList = b.data.toList) : a = b := by
  cases a; cases b; congr 1; exact Array.ext' h
theorem ba_eta (d : ByteArray) : d = ba d.data.toList := ba_ext (by rw [ba_toList])
theorem u8b_byte (b : UInt8) : u8b (b.toNat : Int) = b := by
  unfold u8b; simp
def satL (x : Int) (l : BL) : Int := l.foldl (fun x b => min (10 * x + (b.toNat : Int) - 48) 1000000) x
def valL (x : Int) (l : BL) : Int := l.foldl (fun x b => 10 * x + (b.toNat : Int) - 48) x
def aD (l : BL) : Prop := ∀ b ∈ l, isD b = true
theorem aD_cons {b : UInt8} {l : BL} (h : aD (b :: l)) : (48 ≤ b.toNat ∧ b.toNat ≤ 57) ∧ aD l := ⟨(isD_iff b).1 (h b (List.mem_cons_self ..)), fun c hc => h c (List.mem_cons_of_mem _ hc)⟩
theorem satL_eq : ∀ (l : BL) (v : Int), aD l → 0 ≤ v → satL (min v 1000000) l = min (valL v l) 1000000
  | [], v, _, _ => rfl
  | b :: l, v, h, hv => by
    have hb := aD_cons h
    show satL (min (10 * (min v 1000000) + (b.toNat : Int) - 48) 1000000) l = min (valL (10 * v + (b.toNat : Int) - 48) l) 1000000
    rw [← satL_eq l _ hb.2 (by omega)]
    congr 1; omega
theorem valL_ge : ∀ (l : BL) (v : Int), aD l → 0 ≤ v → v * 10 ^ l.length ≤ valL v l
  | [], v, _, _ => by simp [valL]
  | b :: l, v, h, hv => by
    have hb := aD_cons h
    show v * 10 ^ (l.length + 1) ≤ valL (10 * v + (b.toNat : Int) - 48) l
    refine Int.le_trans ?_ (valL_ge l _ hb.2 (by omega))
    rw [Int.pow_succ', ← Int.mul_assoc]
    exact Int.mul_le_mul_of_nonneg_right (by omega) (Int.pow_nonneg (by decide))
theorem valL_zeros (l : BL) : valL 0 (l.dropWhile (· == 48)) = valL 0 l := by
  induction l with
  | nil => rfl
  | cons b l ih =>
    by_cases h : b = 48
    · subst h
      simp only [List.dropWhile_cons, beq_self_eq_true, if_true, ih]
      rfl
    · have : (b == 48) = false := by simpa using h
      simp [List.dropWhile_cons, this]
/-- small's size. -/
def smallN (x : BL) : Int := if (x.dropWhile (· == 48)).length < 15 then valL 0 (x.dropWhile (· == 48)) else 1000000000000000
theorem aD_dw {l : BL} (h : aD l) : aD (l.dropWhile (· == 48)) := fun b hb => h b ((List.dropWhile_sublist _).mem hb)
theorem smallN_sat {x : BL} (h : aD x) : min (smallN x) 1000000 = satL 0 x ∧ 0 ≤ smallN x := by
  have h0 : satL 0 x = min (valL 0 x) 1000000 := satL_eq x 0 h (Int.le_refl _)
  rw [h0, ← valL_zeros x]
  have hd := aD_dw h
  have hge := valL_ge _ 0 hd (Int.le_refl _)
  rw [Int.zero_mul] at hge
  unfold smallN
  split
  · exact ⟨rfl, hge⟩
  · rename_i hl
    refine ⟨?_, by decide⟩
    cases hx : x.dropWhile (· == 48) with
    | nil => rw [hx] at hl; simp at hl
    | cons c r =>
      rw [hx] at hl hd
      have hc := aD_cons hd
      have hc48 : ¬ c = 48 := by
        intro e
        have := List.head_dropWhile_not (p := (· == (48 : UInt8))) (l := x) (by rw [hx]; simp)
        simp [hx, e] at this
      have hc2 : ¬ c.toNat = 48 := fun e => hc48 (UInt8.toNat_inj.1 e)
      have hv : valL 0 (c :: r) = valL (10 * 0 + (c.toNat : Int) - 48) r := rfl
      have h1 := valL_ge r (10 * 0 + (c.toNat : Int) - 48) hc.2 (by omega)
      have h2 : (10 : Int) ^ 14 ≤ 10 ^ r.length := by
        have := Nat.pow_le_pow_right (n := 10) (by decide) (show 14 ≤ r.length by simp at hl; omega)
        have h5 : ((10 ^ 14 : Nat) : Int) ≤ ((10 ^ r.length : Nat) : Int) := Int.ofNat_le.2 this
        rw [Int.natCast_pow, Int.natCast_pow] at h5
        exact h5
      have h3 : (1 : Int) * 10 ^ r.length ≤ (10 * 0 + (c.toNat : Int) - 48) * 10 ^ r.length := Int.mul_le_mul_of_nonneg_right (by omega) (Int.pow_nonneg (by decide))
      have h4 : (10 : Int) ^ 14 = 100000000000000 := by decide
      rw [hv]; omega
/-! #### The loop over the text -/
abbrev nfold (l : BL) (t : NSt) : NSt := l.foldl (fun t b => nstep b.toNat t) t
theorem fold_dig : ∀ (l : BL) (ng dn pt : Bool) (d : ByteArray) (b x : Int), aD l → nfold l ⟨ng, dn, pt, false, d, b, x⟩ = ⟨ng, dn, pt, false, ba (d.data.toList ++ l), b + (if pt = true then (l.length : Int) else 0), x⟩
  | [], ng, dn, pt, d, b, x, _ => by
    have : ba (d.data.toList ++ []) = d := by rw [List.append_nil]; exact (ba_eta d).symm
    rw [this]; cases pt <;> simp
  | c :: l, ng, dn, pt, d, b, x, h => by
    have hc := aD_cons h
    have h1 : nstep c.toNat ⟨ng, dn, pt, false, d, b, x⟩ = ⟨ng, dn, pt, false, d ++ ⟨#[c]⟩, if pt = true then b + 1 else b, x⟩ := by
      simp only [nstep, Bool.false_eq_true, if_false, u8b_byte]
      rw [if_neg (by omega), if_neg (by omega), if_neg (by omega)]
    show nfold l (nstep c.toNat _) = _
    rw [h1, fold_dig l ng dn pt _ _ x hc.2]
    congr 1
    · rw [show (d ++ ⟨#[c]⟩ : ByteArray).data.toList = d.data.toList ++ [c] by simp]; simp
    · cases pt <;> simp <;> omega
theorem fold_exp : ∀ (l : BL) (ng dn pt : Bool) (d : ByteArray) (b x : Int), aD l → nfold l ⟨ng, dn, pt, true, d, b, x⟩ = ⟨ng, dn, pt, true, d, b, satL x l⟩
  | [], ng, dn, pt, d, b, x, _ => rfl
  | c :: l, ng, dn, pt, d, b, x, h => by
    have hc := aD_cons h
    have h1 : nstep c.toNat ⟨ng, dn, pt, true, d, b, x⟩ = ⟨ng, dn, pt, true, d, b, min (10 * x + (c.toNat : Int) - 48) 1000000⟩ := by
      simp only [nstep, if_true]
      rw [if_neg (by omega), if_pos hc.1]
    show nfold l (nstep c.toNat _) = _
    rw [h1, fold_exp l ng dn pt d b _ hc.2]; rfl
theorem aD_of_len {l : BL} (h : (l.takeWhile isD).length = l.length) : aD l := by
  have h1 : l.takeWhile isD = l := by
    have := List.takeWhile_append_dropWhile (p := isD) (l := l)
    rw [dw_nil.2 h, List.append_nil] at this; exact this
  intro b hb
  rw [← h1] at hb
  exact List.all_eq_true.1 (List.all_takeWhile (p := isD) (l := l)) b hb
theorem aD_tw (l : BL) : aD (l.takeWhile isD) := fun b hb => List.all_eq_true.1 (List.all_takeWhile (p := isD) (l := l)) b hb
def hd45 : BL → Bool
  | [] => false
  | b :: _ => b == 45
theorem fold_pow {r : BL} (h : (pExp r).2 = true) (ng pt : Bool) (d : ByteArray) (b : Int) : ∃ pw, nfold r ⟨ng, false, pt, false, d, b, 0⟩ = ⟨ng, hd45 (pExp r).1, pt, pw, d, b, satL 0 (strip 45 (pExp r).1)⟩ ∧ aD (strip 45 (pExp r).1) ∧ (pExp r).1 ≠ [] := by
  cases r with
  | nil => exact ⟨false, rfl, fun b hb => by simp [pExp, strip] at hb; subst hb; rfl, by simp [pExp]⟩
  | cons e q =>
    simp only [pExp, Bool.and_eq_true, Bool.or_eq_true, decide_eq_true_eq, Bool.not_eq_true', Bool.and_eq_false_iff, decide_eq_false_iff_not] at h
    obtain ⟨he, hne, hall, hpl⟩ := h
    have hX := aD_of_len hall
    refine ⟨true, ?_, hX, ?_⟩
    · have h1 : nstep e.toNat ⟨ng, false, pt, false, d, b, 0⟩ = ⟨ng, false, pt, true, d, b, 0⟩ := by
        simp only [nstep, Bool.false_eq_true, if_false]
        rw [if_neg (by omega), if_neg (by omega), if_pos he]
      show nfold q (nstep e.toNat _) = _
      rw [h1]
      simp only [pExp]
      cases q with
      | nil => simp [strip] at hne
      | cons c q2 =>
        by_cases h43 : c.toNat = 43
        · rw [strip_eq h43] at hne hX hpl ⊢
          have hc : nstep c.toNat ⟨ng, false, pt, true, d, b, 0⟩ = ⟨ng, false, pt, true, d, b, 0⟩ := by
            simp only [nstep, if_true]; rw [if_neg (by omega), if_neg (by omega)]
          show nfold q2 (nstep c.toNat _) = _
          have hq : strip 45 q2 = q2 := by
            rcases hpl with h | h
            · exfalso; apply h; intro e; have := congrArg List.length e; simp at this
            · simpa using h
          rw [hq] at hX ⊢
          rw [hc, fold_exp q2 _ _ _ _ _ _ hX]
          congr 1
          cases q2 with
          | nil => rfl
          | cons f q3 =>
            have := aD_cons hX
            have : ¬ f = 45 := fun e => by subst e; simp at this
            simp [hd45, this]
        · rw [strip_ne h43] at hne hX hpl ⊢
          by_cases h45 : c.toNat = 45
          · rw [strip_eq h45] at hX ⊢
            have hc45 : c = 45 := UInt8.toNat_inj.1 h45
            have hc : nstep c.toNat ⟨ng, false, pt, true, d, b, 0⟩ = ⟨ng, true, pt, true, d, b, 0⟩ := by
              simp only [nstep, if_true]; rw [if_pos h45, if_neg (by omega)]
            show nfold q2 (nstep c.toNat _) = _
            rw [hc, fold_exp q2 _ _ _ _ _ _ hX]
            simp [hd45, hc45]
          · rw [strip_ne h45] at hX ⊢
            rw [fold_exp _ _ _ _ _ _ _ hX]
            have : ¬ c = 45 := fun e => h45 (by rw [e]; rfl)
            simp [hd45, this]
    · simp only [pExp]
      intro e
      rw [e] at hne; simp [strip] at hne
end Lg
namespace Lg
open Go
/-! ### Zeros cut off -/
def cutL (l : BL) : BL := l.dropWhile (· == 48)
def cutR (l : BL) : BL := (l.reverse.dropWhile (· == 48)).reverse
theorem dropWhile_drop' (p : UInt8 → Bool) (l : BL) : l.dropWhile p = l.drop (l.takeWhile p).length := by
  induction l with
  | nil => rfl
  | cons b r ih =>
    by_cases h : p b = true
    · simp [List.dropWhile_cons, List.takeWhile_cons, h, ih]
    · simp [List.dropWhile_cons, List.takeWhile_cons, h]
theorem fz_list (d : ByteArray) (i : Nat) : fz d i = i + ((d.data.toList.drop i).takeWhile (· == 48)).length := by
  by_cases h : i < d.size ∧ (bat d i).toNat = 48
  · have h1 : (bat d i == 48) = true := by simpa using UInt8.toNat_inj.1 h.2
    rw [fz_yes h.1 h.2, bat_list h.1, List.takeWhile_cons, if_pos h1, List.length_cons, fz_list d (i + 1)]; omega
  · rw [fz_no h]
    by_cases h1 : i < d.size
    · have h2 : ¬ (bat d i == 48) = true := fun e => h ⟨h1, by rw [show bat d i = 48 by simpa using e]; rfl⟩
      rw [bat_list h1, List.takeWhile_cons, if_neg h2]; rfl
    · rw [drop_end (by omega)]; rfl
termination_by d.size - i
theorem cutR_snoc (l : BL) (c : UInt8) : cutR (l ++ [c]) = if c = 48 then cutR l else l ++ [c] := by
  unfold cutR
  rw [List.reverse_append]
  by_cases h : c = 48
  · simp [h]
  · have : (c == 48) = false := by simpa using h
    simp [List.dropWhile_cons, this, h]
theorem take_snoc {l : BL} {k : Nat} (h : k < l.length) : l.take (k + 1) = l.take k ++ [l.getD k 0] := by
  rw [List.take_add_one, List.getD_eq_getElem?_getD, List.getElem?_eq_getElem h]; rfl
theorem lz_list (d : ByteArray) (f : Nat) : ∀ l : Nat, f ≤ l → l ≤ d.size → lz d f l = f + (cutR ((d.data.toList.take l).drop f)).length
  | 0, h, _ => by
    have : f = 0 := by omega
    subst this; simp [lz, cutR]
  | l + 1, h, hl => by
    have hlen : d.data.toList.length = d.size := Array.length_toList
    rw [lz]
    by_cases hf : f = l + 1
    · subst hf
      rw [if_neg (by omega)]
      have : (d.data.toList.take (l + 1)).drop (l + 1) = [] := List.drop_eq_nil_of_le (by rw [List.length_take]; omega)
      rw [this]; rfl
    · have ht : (d.data.toList.take (l + 1)).drop f = (d.data.toList.take l).drop f ++ [bat d l] := by
        rw [take_snoc (by omega), List.drop_append_of_le_length (by rw [List.length_take]; omega)]; rfl
      rw [ht, cutR_snoc]
      by_cases hb : (bat d l).toNat = 48
      · rw [if_pos ⟨by omega, hb⟩, if_pos (UInt8.toNat_inj.1 hb), lz_list d f l (by omega) (by omega)]
      · rw [if_neg (fun h => hb h.2), if_neg (fun e => hb (by rw [e]; rfl))]
        simp only [List.length_append, List.length_drop, List.length_take, List.length_cons, List.length_nil]; omega
theorem cutR_len (l : BL) : (cutR l).length ≤ l.length := by
  unfold cutR
  have := (List.dropWhile_sublist (l := l.reverse) (· == (48 : UInt8))).length_le
  simpa using this
theorem cutR_pre (l : BL) : cutR l = l.take (cutR l).length := by
  have h := List.takeWhile_append_dropWhile (p := (· == (48 : UInt8))) (l := l.reverse)
  have h2 : l = cutR l ++ (l.reverse.takeWhile (· == 48)).reverse := by
    unfold cutR
    rw [← List.reverse_append, h, List.reverse_reverse]
  have h3 := congrArg (List.take (cutR l).length) h2
  rw [List.take_left' rfl] at h3
  exact h3.symm
theorem cutR_nil {l : BL} (h : ∀ b ∈ l.head?, b ≠ 48) : cutR l = [] ↔ l = [] := by
  constructor
  · intro e
    cases l with
    | nil => rfl
    | cons b r =>
      exfalso
      have hb := h b rfl
      have : b ∈ (b :: r).reverse.dropWhile (· == 48) := by
        have h1 := List.takeWhile_append_dropWhile (p := (· == (48 : UInt8))) (l := (b :: r).reverse)
        have h2 : b ∈ (b :: r).reverse := by simp
        rw [← h1] at h2
        rcases List.mem_append.1 h2 with h3 | h3
        · have := List.all_eq_true.1 (List.all_takeWhile (p := (· == (48 : UInt8))) (l := (b :: r).reverse)) b h3
          simp at this; exact absurd this hb
        · exact h3
      unfold cutR at e
      rw [List.reverse_eq_nil_iff] at e
      rw [e] at this; simp at this
  · rintro rfl; rfl
theorem cutR_last {l : BL} (h : cutR l ≠ []) : (cutR l).getLast h ≠ 48 := by
  unfold cutR at h ⊢
  rw [List.getLast_reverse]
  have := List.head_dropWhile_not (p := (· == (48 : UInt8))) (l := l.reverse) (fun e => h (by rw [e]; rfl))
  simpa using this
theorem cutL_head (l : BL) : ∀ b ∈ (cutL l).head?, b ≠ 48 := fun b hb => by
  unfold cutL at hb
  have := List.head?_dropWhile_not (p := (· == (48 : UInt8))) l
  rw [Option.mem_def.1 hb] at this
  simpa using this
theorem cutR_head {l : BL} (h : cutR l ≠ []) : (cutR l).head? = l.head? := by
  rw [cutR_pre]
  cases l with
  | nil => simp
  | cons b r =>
    have : 0 < (cutR (b :: r)).length := List.length_pos_iff.2 h
    cases hk : (cutR (b :: r)).length with
    | zero => omega
    | succ k => rfl
/-- The program's number of a text. -/
def pNum (l : BL) : JNum × Int :=
  if (pParts (strip 45 l)).2.2.2 = false then ({}, 1) else
  if cutL ((pParts (strip 45 l)).1 ++ (pParts (strip 45 l)).2.1) = [] then ({}, 0) else
  if 60 < (cutR (cutL ((pParts (strip 45 l)).1 ++ (pParts (strip 45 l)).2.1))).length ∨
     1000 < (if hd45 (pParts (strip 45 l)).2.2.1 = true then -smallN (strip 45 (pParts (strip 45 l)).2.2.1) else smallN (strip 45 (pParts (strip 45 l)).2.2.1)) - (pParts (strip 45 l)).2.1.length + (cutL ((pParts (strip 45 l)).1 ++ (pParts (strip 45 l)).2.1)).length - (cutR (cutL ((pParts (strip 45 l)).1 ++ (pParts (strip 45 l)).2.1))).length ∨
     (if hd45 (pParts (strip 45 l)).2.2.1 = true then -smallN (strip 45 (pParts (strip 45 l)).2.2.1) else smallN (strip 45 (pParts (strip 45 l)).2.2.1)) - (pParts (strip 45 l)).2.1.length + (cutL ((pParts (strip 45 l)).1 ++ (pParts (strip 45 l)).2.1)).length - (cutR (cutL ((pParts (strip 45 l)).1 ++ (pParts (strip 45 l)).2.1))).length < -1000 then ({}, 5) else
  (⟨hd45 l, ba (cutR (cutL ((pParts (strip 45 l)).1 ++ (pParts (strip 45 l)).2.1))),
    (if hd45 (pParts (strip 45 l)).2.2.1 = true then -smallN (strip 45 (pParts (strip 45 l)).2.2.1) else smallN (strip 45 (pParts (strip 45 l)).2.2.1)) - (pParts (strip 45 l)).2.1.length + (cutL ((pParts (strip 45 l)).1 ++ (pParts (strip 45 l)).2.1)).length - (cutR (cutL ((pParts (strip 45 l)).1 ++ (pParts (strip 45 l)).2.1))).length⟩, 0)
/-- What the loop over a number's text has gathered. -/
theorem gathered {m : BL} (h : (pParts m).2.2.2 = true) (ng : Bool) : ∃ pt pw, nfold m ⟨ng, false, false, false, e0, 0, 0⟩ = ⟨ng, hd45 (pParts m).2.2.1, pt, pw, ba ((pParts m).1 ++ (pParts m).2.1), ((pParts m).2.1.length : Int), satL 0 (strip 45 (pParts m).2.2.1)⟩ ∧
    aD (strip 45 (pParts m).2.2.1) ∧ (pParts m).2.2.1 ≠ [] ∧ aD ((pParts m).1 ++ (pParts m).2.1) ∧ (pParts m).1 ≠ [] ∧ (pParts m).1.length + (pParts m).2.1.length ≤ m.length := by
  unfold pParts at h ⊢
  split at h
  · simp at h
  · rename_i hc
    rw [if_neg hc]
    cases hp : pFrac (m.dropWhile isD) with
    | none => rw [hp] at h; simp at h
    | some p =>
      obtain ⟨f, r⟩ := p
      rw [hp] at h
      simp only at h ⊢
      have hm := List.takeWhile_append_dropWhile (p := isD) (l := m)
      have hW := aD_tw m
      have hlen := congrArg List.length hm
      rw [List.length_append] at hlen
      have hWne : m.takeWhile isD ≠ [] := fun e => hc (.inl (by rw [e]; rfl))
      have he0 : e0.data.toList = [] := rfl
      have hb0 : ∀ l : BL, ba (e0.data.toList ++ l) = ba l := fun l => by rw [he0, List.nil_append]
      cases hd : m.dropWhile isD with
      | nil =>
        rw [hd] at hp hlen
        simp only [pFrac, Option.some.injEq, Prod.mk.injEq] at hp
        obtain ⟨rfl, rfl⟩ := hp
        obtain ⟨pw, h1, h2, h3⟩ := fold_pow h ng false (ba (m.takeWhile isD)) 0
        refine ⟨false, pw, ?_, h2, h3, by rw [List.append_nil]; exact hW, hWne, by simp at hlen ⊢; omega⟩
        conv => lhs; rw [← hm, hd, List.append_nil]
        rw [fold_dig _ _ _ _ _ _ _ hW, hb0, List.append_nil]
        simpa [nfold] using h1
      | cons b q =>
        rw [hd] at hp hlen
        simp only [pFrac] at hp
        split at hp
        · rename_i h46
          split at hp
          · cases hp
          · rename_i hq
            simp only [Option.some.injEq, Prod.mk.injEq] at hp
            obtain ⟨rfl, rfl⟩ := hp
            have hq2 := List.takeWhile_append_dropWhile (p := isD) (l := q)
            have hF := aD_tw q
            have hlen2 := congrArg List.length hq2
            rw [List.length_append] at hlen2
            obtain ⟨pw, h1, h2, h3⟩ := fold_pow h ng true (ba (m.takeWhile isD ++ q.takeWhile isD)) (q.takeWhile isD).length
            refine ⟨true, pw, ?_, h2, h3, fun c hcm => (List.mem_append.1 hcm).elim (hW c) (hF c), hWne, by simp at hlen; omega⟩
            have hdot : nstep b.toNat ⟨ng, false, false, false, ba (m.takeWhile isD), 0, 0⟩ = ⟨ng, false, true, false, ba (m.takeWhile isD), 0, 0⟩ := by
              simp only [nstep, Bool.false_eq_true, if_false]; rw [if_neg (by omega), if_pos h46]
            conv => lhs; rw [← hm, hd]
            show List.foldl _ _ _ = _
            rw [List.foldl_append, show List.foldl (fun t (b : UInt8) => nstep b.toNat t) ⟨ng, false, false, false, e0, 0, 0⟩ (m.takeWhile isD) = _ from fold_dig _ _ _ _ _ _ _ hW, hb0]
            rw [List.foldl_cons]
            simp only [Bool.false_eq_true, if_false, Int.add_zero]
            rw [hdot]
            conv => lhs; rw [← hq2]
            rw [List.foldl_append, show List.foldl (fun t (b : UInt8) => nstep b.toNat t) ⟨ng, false, true, false, ba (m.takeWhile isD), 0, 0⟩ (q.takeWhile isD) = _ from fold_dig _ _ _ _ _ _ _ hF, ba_toList]
            simpa [nfold] using h1
        · simp only [Option.some.injEq, Prod.mk.injEq] at hp
          obtain ⟨rfl, rfl⟩ := hp
          obtain ⟨pw, h1, h2, h3⟩ := fold_pow h ng false (ba (m.takeWhile isD)) 0
          refine ⟨false, pw, ?_, h2, h3, by rw [List.append_nil]; exact hW, hWne, by simp at hlen ⊢; omega⟩
          conv => lhs; rw [← hm, hd]
          show List.foldl _ _ _ = _
          rw [List.foldl_append, show List.foldl (fun t (b : UInt8) => nstep b.toNat t) ⟨ng, false, false, false, e0, 0, 0⟩ (m.takeWhile isD) = _ from fold_dig _ _ _ _ _ _ _ hW, hb0, List.append_nil]
          simpa [nfold] using h1
end Lg
namespace Lg
open Go
theorem bat_getD (d : ByteArray) (i : Nat) : bat d i = d.data.toList.getD i 0 := rfl
theorem bat_ba (l : BL) (i : Nat) : bat (ba l) i = l.getD i 0 := by rw [bat_getD, ba_toList]
theorem digs_aD {l : BL} (h : aD l) : digs (ba l) l.length := fun j hj => by
  unfold dig
  rw [bat_ba, List.getD_eq_getElem?_getD, List.getElem?_eq_getElem hj]
  exact (isD_iff _).1 (h _ (List.getElem_mem hj))
/-- A number of trimmed digits may be just if it isn't large. -/
theorem numMay_cut {l : BL} (hl : aD l) (hne : l ≠ []) (hh : ∀ b ∈ l.head?, b ≠ 48) (ng : Bool) (x : Int) :
    NumMay ⟨ng, ba (cutR l), x⟩ ↔ (cutR l).length ≤ 60 ∧ -1000 ≤ x ∧ x ≤ 1000 := by
  have hc : cutR l ≠ [] := fun e => hne ((cutR_nil hh).1 e)
  have hpos : 0 < (cutR l).length := List.length_pos_iff.2 hc
  have hne2 : ¬ ba (cutR l) = ⟨#[]⟩ := fun e => by
    have := congrArg ByteArray.size e
    rw [ba_size] at this
    change (cutR l).length = 0 at this
    omega
  have hsub : aD (cutR l) := fun b hb => by
    rw [cutR_pre] at hb
    exact hl b (List.mem_of_mem_take hb)
  have hfirst : (bat (ba (cutR l)) 0).toNat ≠ 48 := by
    rw [bat_ba]
    have h1 := cutR_head hc
    cases hk : cutR l with
    | nil => exact absurd hk hc
    | cons b r =>
      rw [hk] at h1
      have := hh b (by rw [← h1]; rfl)
      simp only [List.getD_cons_zero]
      exact fun e => this (UInt8.toNat_inj.1 e)
  have hlast : (bat (ba (cutR l)) ((ba (cutR l)).size - 1)).toNat ≠ 48 := by
    rw [bat_ba, ba_size]
    have h1 := cutR_last hc
    have h2 : (cutR l).getD ((cutR l).length - 1) 0 = (cutR l).getLast hc := by
      rw [List.getLast_eq_getElem, List.getD_eq_getElem?_getD, List.getElem?_eq_getElem (by omega)]; rfl
    rw [h2]
    exact fun e => h1 (UInt8.toNat_inj.1 e)
  unfold NumMay
  constructor
  · rintro (⟨h, _⟩ | ⟨_, _, h2, _, _, h3, h4⟩)
    · exact absurd h hne2
    · rw [ba_size] at h2; exact ⟨h2, h3, h4⟩
  · rintro ⟨h2, h3, h4⟩
    refine .inr ⟨hne2, ?_, by rw [ba_size]; exact h2, hfirst, hlast, h3, h4⟩
    show digs (ba (cutR l)) (ba (cutR l)).size
    rw [ba_size]; exact digs_aD hsub
theorem strip_len (c : Nat) (l : BL) : (strip c l).length ≤ l.length := by
  cases l with
  | nil => exact Nat.le_refl _
  | cons b r =>
    by_cases h : b.toNat = c
    · rw [strip_eq h]; simp
    · rw [strip_ne h]; exact Nat.le_refl _
/-- The reference's number is the program's. -/
theorem rNum_pNum (s : ByteArray) (hs : s.size ≤ 1000) : rNum s = pNum s.data.toList := by
  have hiff := rEnd_iff s
  have hlen : s.data.toList.length = s.size := Array.length_toList
  unfold rNum pNum
  by_cases hok : ¬ (pParts (strip 45 s.data.toList)).2.2.2 = true
  · have hf : (pParts (strip 45 s.data.toList)).2.2.2 = false := by simpa using hok
    rw [if_pos hf, if_pos (Decidable.byContradiction fun h => hok (hiff.1 h))]
  · have hok := Decidable.not_not.1 hok
    rw [if_neg (hiff.2 hok), if_neg (show ¬ (pParts (strip 45 s.data.toList)).2.2.2 = false by rw [hok]; simp)]
    -- the loop
    have hfold : ∃ pt pw, nloop s 0 nst0 = ⟨hd45 s.data.toList, hd45 (pParts (strip 45 s.data.toList)).2.2.1, pt, pw, ba ((pParts (strip 45 s.data.toList)).1 ++ (pParts (strip 45 s.data.toList)).2.1), ((pParts (strip 45 s.data.toList)).2.1.length : Int), satL 0 (strip 45 (pParts (strip 45 s.data.toList)).2.2.1)⟩ := by
      rw [nloop_fold, List.drop_zero]
      cases hl : s.data.toList with
      | nil => rw [hl] at hok; simp [strip, pParts] at hok
      | cons b r =>
        rw [hl] at hok
        by_cases hb : b.toNat = 45
        · have hb45 : b = 45 := UInt8.toNat_inj.1 hb
          obtain ⟨pt, pw, h1, _⟩ := gathered hok true
          refine ⟨pt, pw, ?_⟩
          rw [strip_eq hb] at h1 ⊢
          have hst : nstep b.toNat nst0 = ⟨true, false, false, false, e0, 0, 0⟩ := by
            simp only [nst0, nstep, Bool.false_eq_true, if_false]; rw [if_pos hb]
          rw [List.foldl_cons, hst]
          have hh : hd45 (b :: r) = true := by simp [hd45, hb45]
          rw [hh]; exact h1
        · obtain ⟨pt, pw, h1, _⟩ := gathered hok false
          refine ⟨pt, pw, ?_⟩
          rw [strip_ne hb] at h1 ⊢
          have hh : hd45 (b :: r) = false := by
            simp only [hd45, beq_eq_false_iff_ne, ne_eq]; exact fun e => hb (by rw [e]; rfl)
          rw [hh]; exact h1
    obtain ⟨_, _, _, hX, hXne, hD, hWne, hDl⟩ := gathered hok true
    obtain ⟨pt, pw, hT⟩ := hfold
    rw [hT]
    generalize pParts (strip 45 s.data.toList) = P at *
    obtain ⟨W, F, E, ok⟩ := P
    simp only at *
    generalize hDD : W ++ F = D at *
    have hDsz : (ba D).size = D.length := ba_size D
    have hstripl : (strip 45 s.data.toList).length ≤ s.size := by
      rw [← hlen]; exact strip_len 45 _
    have hDn : D.length = W.length + F.length := by rw [← hDD]; simp
    have hnF : nF ⟨hd45 s.data.toList, hd45 E, pt, pw, ba D, F.length, satL 0 (strip 45 E)⟩ = (D.takeWhile (· == 48)).length := by
      unfold nF; rw [fz_list, ba_toList]; simp
    have hfl : (D.takeWhile (· == 48)).length ≤ D.length := (List.takeWhile_sublist _).length_le
    have hdrop : D.drop (D.takeWhile (· == 48)).length = cutL D := (dropWhile_drop' _ D).symm
    have hnL : nL ⟨hd45 s.data.toList, hd45 E, pt, pw, ba D, F.length, satL 0 (strip 45 E)⟩ = (D.takeWhile (· == 48)).length + (cutR (cutL D)).length := by
      unfold nL; rw [hnF]
      simp only
      rw [lz_list _ _ _ (by rw [hDsz]; exact hfl) (Nat.le_refl _), ba_toList, hDsz, List.take_length, hdrop]
    have hcl : (cutL D).length = D.length - (D.takeWhile (· == 48)).length := by rw [← hdrop, List.length_drop]
    have hcr := cutR_len (cutL D)
    have hnil := cutR_nil (cutL_head D)
    rw [hnF, hnL]
    by_cases hall : cutL D = []
    · rw [if_pos (by rw [hall]; rfl), if_pos hall]
    · have hcne : cutR (cutL D) ≠ [] := fun e => hall (hnil.1 e)
      have hcpos : 0 < (cutR (cutL D)).length := List.length_pos_iff.2 hcne
      rw [if_neg (by omega), if_neg hall]
      have hofd : (ba D).extract (D.takeWhile (· == 48)).length ((D.takeWhile (· == 48)).length + (cutR (cutL D)).length) = ba (cutR (cutL D)) := by
        apply ba_ext
        rw [ba_toList]
        have : ((ba D).extract (D.takeWhile (· == 48)).length ((D.takeWhile (· == 48)).length + (cutR (cutL D)).length)).data.toList = (D.drop (D.takeWhile (· == 48)).length).take (cutR (cutL D)).length := by
          simp [ByteArray.data_extract, List.extract_eq_take_drop, ba]
        rw [this, hdrop, ← cutR_pre]
      have hsat := smallN_sat hX
      have hof : nOf ⟨hd45 s.data.toList, hd45 E, pt, pw, ba D, F.length, satL 0 (strip 45 E)⟩ = ⟨hd45 s.data.toList, ba (cutR (cutL D)), (if hd45 E = true then -satL 0 (strip 45 E) else satL 0 (strip 45 E)) - F.length + ((cutL D).length - (cutR (cutL D)).length)⟩ := by
        unfold nOf
        rw [hnF, hnL]
        simp only [hofd, nsgn, hDsz]
        congr 1
        omega
      rw [hof]
      have hmay := numMay_cut (l := cutL D) (aD_dw (l := D) hD) hall (cutL_head D) (hd45 s.data.toList) ((if hd45 E = true then -satL 0 (strip 45 E) else satL 0 (strip 45 E)) - F.length + ((cutL D).length - (cutR (cutL D)).length))
      by_cases hbig : satL 0 (strip 45 E) < 1000000
      · have he : smallN (strip 45 E) = satL 0 (strip 45 E) := by omega
        rw [he]
        have hx : ∀ y : Int, y - F.length + (cutL D).length - (cutR (cutL D)).length = y - F.length + ((cutL D).length - (cutR (cutL D)).length) := fun y => by omega
        rw [hx]
        generalize (if hd45 E = true then -satL 0 (strip 45 E) else satL 0 (strip 45 E)) = z at *
        by_cases hm : NumMay ⟨hd45 s.data.toList, ba (cutR (cutL D)), z - F.length + ((cutL D).length - (cutR (cutL D)).length)⟩
        · have := hmay.1 hm
          rw [if_pos hm, if_neg (by omega)]
        · have := mt hmay.2 hm
          rw [if_neg hm, if_pos (by omega)]
      · have hS : satL 0 (strip 45 E) = 1000000 := by omega
        have hb2 : 1000000 ≤ smallN (strip 45 E) := by omega
        have hm : ¬ NumMay ⟨hd45 s.data.toList, ba (cutR (cutL D)), (if hd45 E = true then -satL 0 (strip 45 E) else satL 0 (strip 45 E)) - F.length + ((cutL D).length - (cutR (cutL D)).length)⟩ := fun h => by
          have := hmay.1 h
          by_cases hh : hd45 E = true
          · rw [if_pos hh] at this; omega
          · rw [if_neg hh] at this; omega
        rw [if_neg hm]
        clear hof hmay hm
        have hl1 : (60 < (cutR (cutL D)).length ∨
     1000 < (if hd45 E = true then -smallN (strip 45 E) else smallN (strip 45 E)) - F.length + (cutL D).length - (cutR (cutL D)).length ∨
     (if hd45 E = true then -smallN (strip 45 E) else smallN (strip 45 E)) - F.length + (cutL D).length - (cutR (cutL D)).length < -1000) := by
          by_cases hh : hd45 E = true
          · rw [if_pos hh]; omega
          · rw [if_neg hh]; omega
        rw [if_pos hl1]
end Lg
namespace Lg
open Go
theorem ba_inj {a b : BL} : ba a = ba b ↔ a = b := ⟨fun h => by rw [← ba_toList a, h, ba_toList], fun h => by rw [h]⟩
theorem ba_nil {a : BL} : ba a = ⟨#[]⟩ ↔ a = [] := ba_inj (b := [])
theorem ba_ex (l : BL) (i j : Nat) : (ba l).extract i j = ba ((l.take j).drop i) := by
  apply ba_ext
  rw [ba_toList]
  simp [ByteArray.data_extract, List.extract_eq_take_drop, ba, List.drop_take]
theorem ba_app (a b : BL) : ba a ++ ba b = ba (a ++ b) := ba_ext (by simp [ba])
theorem ba_pre (l : BL) (n : Nat) : (ba l).extract 0 n = ba (l.take n) := by rw [ba_ex]; rfl
theorem ba_suf (l : BL) (n : Nat) : (ba l).extract n (ba l).size = ba (l.drop n) := by rw [ba_ex, ba_size, List.take_length]
theorem ba_suf1 (b : UInt8) (l : BL) : (ba (b :: l)).extract 1 (ba (b :: l)).size = ba l := ba_suf _ 1
theorem tw_take (l : BL) : l.take (l.takeWhile isD).length = l.takeWhile isD := by
  have h := List.takeWhile_append_dropWhile (p := isD) (l := l)
  conv => lhs; arg 2; rw [← h]
  rw [List.take_left']; rfl
theorem runl_ba (l : BL) : runl (ba l) 0 = (l.takeWhile isD).length := by rw [runl_tw, ba_toList]; rfl
theorem hd45_strip (l : BL) : (strip 45 l ≠ l) ↔ hd45 l = true := by
  cases l with
  | nil => simp [strip, hd45]
  | cons b r =>
    by_cases h : b.toNat = 45
    · have hb : b = 45 := UInt8.toNat_inj.1 h
      rw [strip_eq h]
      simp only [hd45, hb, beq_self_eq_true, iff_true]
      intro e; have := congrArg List.length e; simp at this
    · have hb : ¬ b = 45 := fun e => h (by rw [e]; rfl)
      rw [strip_ne h]; simp [hd45, hb]
theorem ex1 (b : UInt8) (r : BL) (c : UInt8) : ((ba (b :: r)).extract 0 1 = (⟨#[c]⟩ : ByteArray)) ↔ b.toNat = c.toNat := by
  rw [ba_pre]
  have : (⟨#[c]⟩ : ByteArray) = ba [c] := rfl
  rw [this, ba_inj]
  simp [UInt8.toNat_inj]
def hdC (c : UInt8) : BL → Bool
  | [] => false
  | b :: _ => decide (b.toNat = c.toNat)
theorem bat0 (b : UInt8) (r : BL) : bat (ba (b :: r)) 0 = b := bat_ba _ 0
theorem cutL_cons (b : UInt8) (r : BL) : cutL (b :: r) = if b = 48 then cutL r else b :: r := by
  unfold cutL
  by_cases h : b = 48
  · simp [h]
  · have : (b == 48) = false := by simpa using h
    simp [List.dropWhile_cons, this, h]
theorem cutR_take {l : BL} (h : 0 < l.length) : cutR l = if l.getD (l.length - 1) 0 = 48 then cutR (l.take (l.length - 1)) else l := by
  have h1 : l = l.take (l.length - 1) ++ [l.getD (l.length - 1) 0] := by
    have := take_snoc (l := l) (k := l.length - 1) (by omega)
    rw [show l.length - 1 + 1 = l.length by omega, List.take_length] at this
    exact this
  conv => lhs; rw [h1]
  rw [cutR_snoc]
  split
  · rfl
  · exact h1.symm
end Lg
namespace Lg
open Go
def jsign (n : JNum) : Int := if n.digits = ⟨#[]⟩ then 0 else if n.neg = true then -1 else 1
def cmpI (a b : Int) : Int := if a < b then -1 else if b < a then 1 else 0
def cmpS (a b : ByteArray) : Int := if blt a b = true then -1 else if (blt a b || decide (a = b)) = false then 1 else 0
def pCmp (a b : JNum) : Int := if jsign a = jsign b then jsign a * (if cmpI (a.digits.size + a.exp) (b.digits.size + b.exp) = 0 then cmpS a.digits b.digits else cmpI (a.digits.size + a.exp) (b.digits.size + b.exp)) else cmpI (jsign a) (jsign b)
def zer (k : Int) : BL := List.replicate k.toNat 48
/-- A number's digits, up to a power of ten. -/
def jexp (n : JNum) (low : Int) : ByteArray := if n.digits = ⟨#[]⟩ then ⟨#[]⟩ else n.digits ++ ba (zer (n.exp - low))
def lessS (x y : ByteArray) : Bool := if x.size = y.size then blt x y else decide (x.size < y.size)
def rLess (a b : JNum) : Bool :=
  if a.neg = b.neg then (if a.neg = true then lessS (jexp b (min a.exp b.exp)) (jexp a (min a.exp b.exp)) else lessS (jexp a (min a.exp b.exp)) (jexp b (min a.exp b.exp))) else a.neg
def rCmp (a b : JNum) : Int := if rLess a b = true then -1 else if rLess b a = true then 1 else 0
def itoaB (n : Int) : ByteArray := ba (Lib.itoa n)
theorem dd_small {u : Nat} (h : u < 10) : Lib.decDigits u = [UInt8.ofNat (48 + u)] := by rw [Lib.decDigits, dif_pos h]
theorem dd_big {u : Nat} (h : ¬ u < 10) : Lib.decDigits u = Lib.decDigits (u / 10) ++ [UInt8.ofNat (48 + u % 10)] := by rw [Lib.decDigits, dif_neg h]
theorem itoa_neg {n : Int} (h : n < 0) : itoaB n = (⟨#[45]⟩ : ByteArray) ++ itoaB (-n) := by
  unfold itoaB Lib.itoa
  rw [if_pos h, if_neg (by omega), show n.natAbs = (-n).toNat by omega]
  have : (⟨#[45]⟩ : ByteArray) = ba [45] := rfl
  rw [this, ba_app]; rfl
theorem itoa_small {n : Int} (h : 0 ≤ n) (h1 : n < 10) : itoaB n = ⟨#[u8b (48 + n)]⟩ := by
  unfold itoaB Lib.itoa
  rw [if_neg (by omega), dd_small (by omega)]
  have e : u8b (48 + n) = UInt8.ofNat (48 + n.toNat) := by unfold u8b; congr 1; omega
  rw [e]; rfl
theorem itoa_big {n : Int} (h1 : 10 ≤ n) : itoaB n = itoaB (n / 10) ++ (⟨#[u8b (48 + n % 10)]⟩ : ByteArray) := by
  unfold itoaB Lib.itoa
  rw [if_neg (by omega), if_neg (by omega), dd_big (by omega)]
  have e : u8b (48 + n % 10) = UInt8.ofNat (48 + n.toNat % 10) := by unfold u8b; congr 1; omega
  have e2 : (⟨#[u8b (48 + n % 10)]⟩ : ByteArray) = ba [UInt8.ofNat (48 + n.toNat % 10)] := by rw [e]; rfl
  rw [e2, ba_app]
  congr 3; omega
theorem dd_len (u : Nat) : ∀ k, u < 10 ^ (k + 1) → (Lib.decDigits u).length ≤ k + 1 := by
  intro k
  induction k generalizing u with
  | zero => intro h; rw [dd_small (by simpa using h)]; exact Nat.le_refl _
  | succ k ih =>
    intro h
    by_cases h1 : u < 10
    · rw [dd_small h1]; simp
    · rw [dd_big h1, List.length_append]
      have := ih (u / 10) (by rw [Nat.pow_succ] at h; omega)
      simp; omega
theorem itoa_size {n : Int} (h0 : -9223372036854775808 ≤ n) (h1 : n ≤ 9223372036854775807) : (itoaB n).size ≤ 21 := by
  unfold itoaB
  rw [ba_size]
  unfold Lib.itoa
  split
  · have := dd_len n.natAbs 19 (by omega)
    simp; omega
  · have := dd_len n.toNat 19 (by omega); omega
def jshow (n : JNum) : ByteArray :=
  if n.digits = ⟨#[]⟩ then ⟨#[48]⟩ else
  if n.exp = 0 then (if n.neg = true then (⟨#[45]⟩ : ByteArray) ++ n.digits else n.digits) else (if n.neg = true then (⟨#[45]⟩ : ByteArray) ++ n.digits else n.digits) ++ (⟨#[101]⟩ : ByteArray) ++ itoaB n.exp
def rWhole (n : JNum) : Bool := decide (n.digits = ⟨#[]⟩) || decide (0 ≤ n.exp)
theorem pParts_no {l : BL} (h : (l.takeWhile isD).length = 0 ∨ (1 < (l.takeWhile isD).length ∧ l.headD 0 = 48)) : pParts l = ([], [], [], false) := by unfold pParts; rw [if_pos h]
theorem pParts_none {l : BL} (h : ¬ ((l.takeWhile isD).length = 0 ∨ (1 < (l.takeWhile isD).length ∧ l.headD 0 = 48))) (h2 : pFrac (l.dropWhile isD) = none) : pParts l = ([], [], [], false) := by unfold pParts; rw [if_neg h, h2]
theorem pParts_some {l : BL} {f r : BL} (h : ¬ ((l.takeWhile isD).length = 0 ∨ (1 < (l.takeWhile isD).length ∧ l.headD 0 = 48))) (h2 : pFrac (l.dropWhile isD) = some (f, r)) : pParts l = (l.takeWhile isD, f, (pExp r).1, (pExp r).2) := by unfold pParts; rw [if_neg h, h2]
end Lg
namespace Lg
open Go
theorem hdC_true {c : UInt8} {l : BL} (h : hdC c l = true) : ∃ b q, l = b :: q ∧ b.toNat = c.toNat := by
  cases l with
  | nil => simp [hdC] at h
  | cons b q => exact ⟨b, q, rfl, by simpa [hdC] using h⟩
theorem hdC_strip {c : UInt8} {l : BL} (h : hdC c l = false) : strip c.toNat l = l := by
  cases l with
  | nil => rfl
  | cons b q => exact strip_ne (by simpa [hdC] using h)
theorem hdC_cons (c b : UInt8) (q : BL) : hdC c (b :: q) = decide (b.toNat = c.toNat) := rfl
theorem strip_ne_iff (c : UInt8) (l : BL) : (strip c.toNat l ≠ l) ↔ hdC c l = true := by
  cases l with
  | nil => simp [strip, hdC]
  | cons b r =>
    by_cases h : b.toNat = c.toNat
    · rw [strip_eq h]; simp only [hdC, h, decide_true, iff_true]
      intro e; have := congrArg List.length e; simp at this
    · rw [strip_ne h]; simp [hdC, h]
theorem pFrac_dot {b : UInt8} {q : BL} (h : b.toNat = 46) (h2 : ¬ (q.takeWhile isD).length = 0) : pFrac (b :: q) = some (q.takeWhile isD, q.dropWhile isD) := by
  simp only [pFrac]; rw [if_pos h, if_neg (by rw [List.isEmpty_iff_length_eq_zero]; exact h2)]
theorem pFrac_bad {b : UInt8} {q : BL} (h : b.toNat = 46) (h2 : (q.takeWhile isD).length = 0) : pFrac (b :: q) = none := by
  simp only [pFrac]; rw [if_pos h, if_pos (by rw [List.isEmpty_iff_length_eq_zero]; exact h2)]
theorem pFrac_not {l : BL} (h : hdC 46 l = false) : pFrac l = some ([], l) := by
  cases l with
  | nil => rfl
  | cons b q => simp only [pFrac]; rw [if_neg (by simpa [hdC] using h)]
theorem pFrac_len {l f r : BL} (h : pFrac l = some (f, r)) : f.length + r.length ≤ l.length := by
  cases l with
  | nil => simp [pFrac] at h; obtain ⟨rfl, rfl⟩ := h; simp
  | cons b q =>
    simp only [pFrac] at h
    split at h
    · split at h
      · cases h
      · simp only [Option.some.injEq, Prod.mk.injEq] at h
        obtain ⟨rfl, rfl⟩ := h
        have := congrArg List.length (List.takeWhile_append_dropWhile (p := isD) (l := q))
        simp only [List.length_append, List.length_cons] at this ⊢; omega
    · simp only [Option.some.injEq, Prod.mk.injEq] at h
      obtain ⟨rfl, rfl⟩ := h
      simp
theorem pExp2 (b : UInt8) (q : BL) : (pExp (b :: q)).2 = ((decide (b.toNat = 101) || decide (b.toNat = 69)) && (!decide (strip 45 (strip 43 q) = []) && (decide (((strip 45 (strip 43 q)).takeWhile isD).length = (strip 45 (strip 43 q)).length) && !(hdC 43 q && decide (strip 45 (strip 43 q) ≠ strip 43 q))))) := by
  have h43 : decide (strip 43 q ≠ q) = hdC 43 q := by
    have := strip_ne_iff 43 q
    have e : (43 : UInt8).toNat = 43 := rfl
    rw [e] at this
    cases h : hdC 43 q with
    | true => exact decide_eq_true (this.2 h)
    | false => exact decide_eq_false (fun k => by rw [this.1 k] at h; cases h)
  have hn : (strip 45 (strip 43 q)).isEmpty = decide (strip 45 (strip 43 q) = []) := by cases strip 45 (strip 43 q) <;> rfl
  unfold pExp
  simp only [h43, hn]
theorem pExp3 (b : UInt8) (q : BL) : (pExp (b :: q)).2 = ((decide ((b.toNat : Int) = 101) || decide ((b.toNat : Int) = 69)) && (!decide (strip 45 (strip 43 q) = []) && (decide ((((strip 45 (strip 43 q)).takeWhile isD).length : Int) = ((ba (strip 45 (strip 43 q))).size : Int)) && !(hdC 43 q && decide (strip 45 (strip 43 q) ≠ strip 43 q))))) := by
  rw [pExp2]
  have e1 : decide ((b.toNat : Int) = 101) = decide (b.toNat = 101) := decide_eq_decide.2 (by omega)
  have e2 : decide ((b.toNat : Int) = 69) = decide (b.toNat = 69) := decide_eq_decide.2 (by omega)
  have e3 : decide ((((strip 45 (strip 43 q)).takeWhile isD).length : Int) = ((ba (strip 45 (strip 43 q))).size : Int)) = decide (((strip 45 (strip 43 q)).takeWhile isD).length = (strip 45 (strip 43 q)).length) := decide_eq_decide.2 (by rw [ba_size]; omega)
  rw [e1, e2, e3]
end Lg
namespace Lg
open Go
/-! ### A text in quotes -/
def hxd (n : Nat) : UInt8 := (([48, 49, 50, 51, 52, 53, 54, 55, 56, 57, 97, 98, 99, 100, 101, 102] : BL).getD n 0)
def qch (b : UInt8) : BL := if b.toNat = 34 ∨ b.toNat = 92 then [92, b] else if b.toNat < 32 then [92, 117, 48, 48, hxd (b.toNat / 16), hxd (b.toNat % 16)] else [b]
def qbody (l : BL) : BL := l.flatMap qch
def quoteL (l : BL) : BL := 34 :: qbody l ++ [34]
theorem qch_len (b : UInt8) : (qch b).length ≤ 6 := by unfold qch; split <;> (try split) <;> simp
theorem qbody_len (l : BL) : (qbody l).length ≤ 6 * l.length := by
  induction l with
  | nil => simp [qbody]
  | cons b l ih =>
    have := qch_len b
    simp only [qbody, List.flatMap_cons, List.length_append, List.length_cons] at *
    omega
theorem qbody_snoc (l : BL) (b : UInt8) : qbody (l ++ [b]) = qbody l ++ qch b := by simp [qbody]
theorem qbody_take {l : BL} {i : Nat} (h : i < l.length) : qbody (l.take (i + 1)) = qbody (l.take i) ++ qch (l.getD i 0) := by rw [take_snoc h, qbody_snoc]
theorem qch1 {b : UInt8} (h : b.toNat = 34 ∨ b.toNat = 92) : qch b = [92, b] := by unfold qch; rw [if_pos h]
theorem qch2 {b : UInt8} (h : ¬ (b.toNat = 34 ∨ b.toNat = 92)) (h2 : b.toNat < 32) : qch b = [92, 117, 48, 48, hxd (b.toNat / 16), hxd (b.toNat % 16)] := by unfold qch; rw [if_neg h, if_pos h2]
theorem qch3 {b : UInt8} (h : ¬ (b.toNat = 34 ∨ b.toNat = 92)) (h2 : ¬ b.toNat < 32) : qch b = [b] := by unfold qch; rw [if_neg h, if_neg h2]
end Lg
namespace Lg
open Go
/-! ### A value's canonical text -/
def nullL : BL := [110, 117, 108, 108]
def trueL : BL := [116, 114, 117, 101]
def falseL : BL := [102, 97, 108, 115, 101]
mutual
def jtx : JV → BL
  | .mk k b n s l m => if k = 1 then (if b then trueL else falseL) else if k = 2 then (jshow n).data.toList else if k = 3 then quoteL s.data.toList else
    if k = 4 then ljw 91 l ++ (if l.length = 0 then [91, 93] else [93]) else if k = 5 then mjw 123 m ++ (if m.length = 0 then [123, 125] else [125]) else nullL
def ljw (c : UInt8) : List JV → BL
  | [] => []
  | x :: r => c :: (jtx x ++ ljw 44 r)
def mjw (c : UInt8) : List (ByteArray × JV) → BL
  | [] => []
  | (k, x) :: r => c :: (quoteL k.data.toList ++ 58 :: (jtx x ++ mjw 44 r))
end
theorem jtx_eq (v : JV) : jtx v = if v.kind = 1 then (if v.b then trueL else falseL) else if v.kind = 2 then (jshow v.n).data.toList else if v.kind = 3 then quoteL v.s.data.toList else
    if v.kind = 4 then ljw 91 v.l ++ (if v.l.length = 0 then [91, 93] else [93]) else if v.kind = 5 then mjw 123 v.m ++ (if v.m.length = 0 then [123, 125] else [125]) else nullL := by
  cases v; rw [jtx]; rfl
theorem ljw_snoc : ∀ (l : List JV) (c : UInt8) (x : JV), ljw c (l ++ [x]) = ljw c l ++ (if l.length = 0 then c else 44) :: jtx x
  | [], c, x => by simp [ljw]
  | y :: r, c, x => by
    rw [List.cons_append, ljw, ljw_snoc r 44 x, ljw]
    cases r <;> simp
theorem mjw_snoc : ∀ (l : List (ByteArray × JV)) (c : UInt8) (x : ByteArray × JV), mjw c (l ++ [x]) = mjw c l ++ (if l.length = 0 then c else 44) :: (quoteL x.1.data.toList ++ 58 :: jtx x.2)
  | [], c, x => by simp [mjw]
  | y :: r, c, x => by
    rw [List.cons_append, mjw, mjw_snoc r 44 x, mjw]
    cases r <;> simp
theorem ltake_succ {α : Type} {l : List α} {i : Nat} {x : α} (h : l[i]? = some x) : l.take (i + 1) = l.take i ++ [x] := by rw [List.take_add_one, h]; rfl
theorem ljw_take {l : List JV} {i : Nat} {x : JV} (c : UInt8) (h : l[i]? = some x) : ljw c (l.take (i + 1)) = ljw c (l.take i) ++ (if i = 0 then c else 44) :: jtx x := by
  have hi := (List.getElem?_eq_some_iff.1 h).1
  rw [ltake_succ h, ljw_snoc, List.length_take, Nat.min_eq_left (by omega)]
theorem mjw_take {l : List (ByteArray × JV)} {i : Nat} {x : ByteArray × JV} (c : UInt8) (h : l[i]? = some x) : mjw c (l.take (i + 1)) = mjw c (l.take i) ++ (if i = 0 then c else 44) :: (quoteL x.1.data.toList ++ 58 :: jtx x.2) := by
  have hi := (List.getElem?_eq_some_iff.1 h).1
  rw [ltake_succ h, mjw_snoc, List.length_take, Nat.min_eq_left (by omega)]
theorem ljw_head (c : UInt8) (l : List JV) : ljw c l = if l.length = 0 then [] else c :: (ljw 44 l).tail := by cases l <;> simp [ljw]
theorem mjw_head (c : UInt8) (l : List (ByteArray × JV)) : mjw c l = if l.length = 0 then [] else c :: (mjw 44 l).tail := by
  cases l with
  | nil => simp [mjw]
  | cons x r => obtain ⟨k, y⟩ := x; simp [mjw]
theorem jshow_len (n : JNum) (h : n.digits.size ≤ 1000000) (h0 : -1000000 ≤ n.exp) (h1 : n.exp ≤ 1000000) : (jshow n).size ≤ 1000025 := by
  have := itoa_size (n := n.exp) (by omega) (by omega)
  have e1 : (⟨#[45]⟩ : ByteArray).size = 1 := rfl
  have e2 : (⟨#[101]⟩ : ByteArray).size = 1 := rfl
  have e3 : (⟨#[48]⟩ : ByteArray).size = 1 := rfl
  unfold jshow
  repeat' split
  all_goals (try simp only [ByteArray.size_append, e1, e2, e3])
  all_goals omega
/-- Kinds, strings, and numbers are such as the walk bears. -/
def jnb (n : JNum) : Prop := -1000000 ≤ n.exp ∧ n.exp ≤ 1000000
mutual
def jkb : JV → Prop
  | .mk k _ n _ l m => 0 ≤ k ∧ k ≤ 5 ∧ jnb n ∧ lkb l ∧ mkb m
def lkb : List JV → Prop
  | [] => True
  | v :: r => jkb v ∧ lkb r
def mkb : List (ByteArray × JV) → Prop
  | [] => True
  | (_, v) :: r => jkb v ∧ mkb r
end
theorem jkb_eq (v : JV) : jkb v ↔ 0 ≤ v.kind ∧ v.kind ≤ 5 ∧ jnb v.n ∧ lkb v.l ∧ mkb v.m := by cases v; simp [jkb, JV.kind, JV.n, JV.l, JV.m]
theorem lkb_get {l : List JV} {i : Nat} {x : JV} (h : lkb l) (hx : l[i]? = some x) : jkb x := by
  induction l generalizing i with
  | nil => simp at hx
  | cons a r ih =>
    cases i with
    | zero => simp at hx; subst hx; exact h.1
    | succ i => exact ih h.2 (by simpa using hx)
theorem mkb_get {l : List (ByteArray × JV)} {i : Nat} {x : ByteArray × JV} (h : mkb l) (hx : l[i]? = some x) : jkb x.2 := by
  induction l generalizing i with
  | nil => simp at hx
  | cons a r ih =>
    cases i with
    | zero => simp at hx; subst hx; exact h.1
    | succ i => exact ih h.2 (by simpa using hx)
theorem lkb_of : ∀ {l : List JV}, (∀ (i : Nat) x, l[i]? = some x → jkb x) → lkb l
  | [], _ => trivial
  | a :: r, h => ⟨h 0 a rfl, lkb_of fun i x hx => h (i + 1) x (by simpa using hx)⟩
theorem mkb_of : ∀ {l : List (ByteArray × JV)}, (∀ (i : Nat) x, l[i]? = some x → jkb x.2) → mkb l
  | [], _ => trivial
  | a :: r, h => ⟨h 0 a rfl, mkb_of fun i x hx => h (i + 1) x (by simpa using hx)⟩
theorem may_nb {n : JNum} (h : NumMay n) : jnb n := by
  rcases h with ⟨_, _, h⟩ | ⟨_, _, _, _, _, h1, h2⟩
  · unfold jnb; omega
  · unfold jnb; omega
theorem may_kb : ∀ (n : Nat) (v : JV), jsize v ≤ n → jmay v → jkb v := by
  intro n
  induction n with
  | zero => intro v h; have := jsize_pos v; omega
  | succ n ih =>
    intro v hn hm
    have hs := jsize_eq v
    have hl := lsize_nn v.l
    have hmm := msize_nn v.m
    obtain ⟨⟨h1, h2, h3, h4, h5⟩, h6, h7⟩ := (jmay_eq v).1 hm
    refine (jkb_eq v).2 ⟨h1, h2, may_nb h4, lkb_of fun i x hx => ih x ?_ (h7 i x hx), mkb_of fun i x hx => ih x.2 ?_ (h6 i x (List.getElem?_eq_some_iff.1 hx).1 hx).2⟩
    · have := lsize_mem hx; omega
    · have := msize_mem hx; omega
mutual
theorem jtx_len : ∀ v : JV, jb v → jkb v → ((jtx v).length : Int) + 7000010 ≤ 20000000 * jsize v
  | .mk k b n s l m => fun hb hk => by
    obtain ⟨b1, b2, b3, b4, b5, b6⟩ := hb
    obtain ⟨k1, k2, k3, k4, k5⟩ := hk
    have h1 := ljw_len l 91 b5 k4
    have h2 := mjw_len m 123 b6 k5
    have h3 := lsize_nn l
    have h4 := msize_nn m
    have h5 := jshow_len n b1 k3.1 k3.2
    have h6 := qbody_len s.data.toList
    have h7 : s.data.toList.length = s.size := Array.length_toList ..
    have h8 : (quoteL s.data.toList).length = (qbody s.data.toList).length + 2 := by unfold quoteL; simp
    have h9 : (jshow n).data.toList.length = (jshow n).size := Array.length_toList ..
    simp only [jtx, jsize, trueL, falseL, nullL]
    repeat' split
    all_goals (try simp only [List.length_append, List.length_cons, List.length_nil])
    all_goals omega
theorem ljw_len : ∀ (l : List JV) (c : UInt8), lb l → lkb l → ((ljw c l).length : Int) ≤ 20000000 * lsize l
  | [], c => fun _ _ => by simp [ljw, lsize]
  | x :: r, c => fun hb hk => by
    have h1 := jtx_len x hb.1 hk.1
    have h2 := ljw_len r 44 hb.2 hk.2
    simp only [ljw, lsize, List.length_append, List.length_cons]
    omega
theorem mjw_len : ∀ (l : List (ByteArray × JV)) (c : UInt8), mb l → mkb l → ((mjw c l).length : Int) ≤ 20000000 * msize l
  | [], c => fun _ _ => by simp [mjw, msize]
  | (k, x) :: r, c => fun hb hk => by
    have h1 := jtx_len x hb.2.1 hk.1
    have h2 := mjw_len r 44 hb.2.2 hk.2
    have h6 := qbody_len k.data.toList
    have h7 : k.data.toList.length = k.size := Array.length_toList ..
    have h8 : (quoteL k.data.toList).length = (qbody k.data.toList).length + 2 := by unfold quoteL; simp
    have h9 := hb.1
    simp only [mjw, msize, List.length_append, List.length_cons]
    omega
end
end Lg
namespace Lg
open Go Go.RowKit
variable [GLay] {P : Program} {τ ρ : List AO} {E : TypeId} {a a' : AV} {l l' : List UInt8}
/-! ### A Builder of the caller's, more objects behind it -/
theorem bldr_app : bldr τ a E l ++ ρ = τ ++ (.box [a, .bts (τ.length + 1) l.length] :: .bytes E l :: ρ) := by unfold bldr; rw [List.append_assoc]; rfl
theorem bldr_len : (bldr τ a E l).length = τ.length + 2 := by simp [bldr]
theorem sufB {f : FuncId} {args : List AV} {v : AV} (h : ACalls P f args (bldr τ a E l) (Ret v (bldr τ a' E l'))) (hτ : closed τ.length τ) (ha : a.lt (τ.length + 2)) (hargs : AV.ltL (τ.length + 2) args) :
    ACalls P f args (τ ++ (.box [a, .bts (τ.length + 1) l.length] :: .bytes E l :: ρ)) (Ret v (τ ++ (.box [a', .bts (τ.length + 1) l'.length] :: .bytes E l' :: ρ))) := by
  rw [← bldr_app, ← bldr_app]
  exact ACalls_suf h (by rw [bldr_len]; exact closed_bldr hτ ha) (by rw [bldr_len]; exact hargs) (by rw [bldr_len, bldr_len])
theorem ResQ_B {R : Out → List AO → Prop} {el : List (Nat × AV)} (hτ : closed τ.length τ) (ha : a'.lt (τ.length + 2)) (hR : R (.ret (.tup [])) (bldr τ a' E l')) :
    ResQ (bldr τ a E l).length [] R .normal ⟨[], el⟩ (τ ++ (.box [a', .bts (τ.length + 1) l'.length] :: .bytes E l' :: ρ)) := by
  refine ⟨rfl, τ.length + 2, by rw [bldr_len]; exact Nat.le_refl _, ?_, trivial, ?_⟩
  · exact closed_own 2 hτ (by simp [ownLt, AO.cells, AV.ltL, AV.lt, ha])
  · rw [take_own]; exact hR
end Lg
namespace Lg
open Go
theorem lb_take : ∀ (l : List JV) (i : Nat), lb l → lb (l.take i)
  | [], i, _ => by simp [lb]
  | a :: r, 0, _ => by simp [lb]
  | a :: r, i + 1, h => ⟨h.1, lb_take r i h.2⟩
theorem lkb_take : ∀ (l : List JV) (i : Nat), lkb l → lkb (l.take i)
  | [], i, _ => by simp [lkb]
  | a :: r, 0, _ => by simp [lkb]
  | a :: r, i + 1, h => ⟨h.1, lkb_take r i h.2⟩
theorem mb_take : ∀ (l : List (ByteArray × JV)) (i : Nat), mb l → mb (l.take i)
  | [], i, _ => by simp [mb]
  | a :: r, 0, _ => by simp [mb]
  | (k, x) :: r, i + 1, h => ⟨h.1, h.2.1, mb_take r i h.2.2⟩
theorem mkb_take : ∀ (l : List (ByteArray × JV)) (i : Nat), mkb l → mkb (l.take i)
  | [], i, _ => by simp [mkb]
  | a :: r, 0, _ => by simp [mkb]
  | (k, x) :: r, i + 1, h => ⟨h.1, mkb_take r i h.2⟩
def sgn (c : UInt8) : Nat → UInt8
  | 0 => c
  | _ + 1 => 44
theorem sgn_eq (c : UInt8) (i : Nat) : sgn c i = if i = 0 then c else 44 := by cases i <;> simp [sgn]
theorem ljw_step {l : List JV} {i : Nat} {x : JV} (c : UInt8) (h : l[i]? = some x) (p : BL) : p ++ ljw c (l.take i) ++ [sgn c i] ++ jtx x = p ++ ljw c (l.take (i + 1)) := by
  rw [ljw_take c h, sgn_eq]; simp
theorem mjw_step {l : List (ByteArray × JV)} {i : Nat} {x : ByteArray × JV} (c : UInt8) (h : l[i]? = some x) (p : BL) : p ++ mjw c (l.take i) ++ (sgn c i :: (quoteL x.1.data.toList ++ [58])) ++ jtx x.2 = p ++ mjw c (l.take (i + 1)) := by
  rw [mjw_take c h, sgn_eq]; simp
theorem ljw_le {l : List JV} (c : UInt8) (h1 : lb l) (h2 : lkb l) (i : Nat) : ((ljw c (l.take i)).length : Int) ≤ 20000000 * lsize (l.take i) ∧ lsize (l.take i) ≤ lsize l := ⟨ljw_len _ c (lb_take l i h1) (lkb_take l i h2), lsize_take_le l i⟩
theorem mjw_le {l : List (ByteArray × JV)} (c : UInt8) (h1 : mb l) (h2 : mkb l) (i : Nat) : ((mjw c (l.take i)).length : Int) ≤ 20000000 * msize (l.take i) ∧ msize (l.take i) ≤ msize l := ⟨mjw_len _ c (mb_take l i h1) (mkb_take l i h2), msize_take_le l i⟩
theorem tail_txt (x y : UInt8) (n : Nat) : ((⟨#[x, y]⟩ : ByteArray).extract (min (n : Int) 1).toNat ((2 : Nat) : Int).toNat).data.toList = if n = 0 then [x, y] else [y] := by
  by_cases h : n = 0
  · subst h; rw [if_pos rfl]; rfl
  · rw [if_neg h, show (min (n : Int) 1).toNat = 1 by omega]; rfl
theorem quote_size {s : ByteArray} (h : s.size ≤ 1000000) : (quoteL s.data.toList).length ≤ 6000002 := by
  have h6 := qbody_len s.data.toList
  have h7 : s.data.toList.length = s.size := Array.length_toList ..
  unfold quoteL; simp; omega
end Lg
namespace Lg
open Go
/-! ### The reference's reader, to be run by the kernel -/
def rnumvC (s : ByteArray) (r : RS) : JV × RS :=
  (.mk 2 false (pNum (s.extract r.a (rEnd s r.a).1).data.toList).1 e0 [] [],
   ⟨(rEnd s r.a).1, r.deep, (if (pNum (s.extract r.a (rEnd s r.a).1).data.toList).2 = 0 then (if (rEnd s r.a).2 = true then r else rfail r (rEnd s r.a).1 1) else rfail (if (rEnd s r.a).2 = true then r else rfail r (rEnd s r.a).1 1) r.a 5).bad,
    (if (pNum (s.extract r.a (rEnd s r.a).1).data.toList).2 = 0 then (if (rEnd s r.a).2 = true then r else rfail r (rEnd s r.a).1 1) else rfail (if (rEnd s r.a).2 = true then r else rfail r (rEnd s r.a).1 1) r.a 5).spot⟩)
theorem rnumv_C {s : ByteArray} (hs : s.size ≤ 1000) (r : RS) : rnumv s r = rnumvC s r := by
  unfold rnumv rnumvC
  rw [rNum_pNum _ (by rw [ByteArray.size_extract]; omega)]
/-- What a byte begins. -/
def roneC (rv : RS → JV × RS) (s : ByteArray) (r : RS) : JV × RS :=
  if pkv s r.a r.bad = 123 then robj rv s r else
  if pkv s r.a r.bad = 91 then rarr rv s r else
  if pkv s r.a r.bad = 34 then (.mk 3 false {} (rtext s r).1 [] [], (rtext s r).2) else
  if pkv s r.a r.bad = 110 then (vz, rwant s lNull r) else
  if pkv s r.a r.bad = 116 then (.mk 1 true {} e0 [] [], rwant s lTrue r) else
  if pkv s r.a r.bad = 102 then (.mk 1 false {} e0 [] [], rwant s lFalse r) else
  if pkv s r.a r.bad = 45 ∨ (48 ≤ pkv s r.a r.bad ∧ pkv s r.a r.bad ≤ 57) then rnumvC s r else (vz, rfail r r.a 1)
def rvalC : Nat → ByteArray → RS → JV × RS
  | 0, s, r => (vz, r)
  | n + 1, s, r => ((roneC (rvalC n s) s (rblank s r)).1, rblank s (roneC (rvalC n s) s (rblank s r)).2)
theorem rval_C {s : ByteArray} (hs : s.size ≤ 1000) : ∀ n, rval n s = rvalC n s
  | 0 => rfl
  | n + 1 => by
    funext r
    have ih := rval_C hs n
    unfold rval rvalC
    rw [ih]
    have e : ∀ r, rone (rvalC n s) s r = roneC (rvalC n s) s r := fun r => by unfold rone roneC; rw [rnumv_C hs]
    rw [e]
def rparC (s : ByteArray) : JV × RS := rvalC (s.size + 2) s ⟨0, 0, 0, 0⟩
def rparEC (s : ByteArray) : RS := if (rparC s).2.bad = 0 ∧ (rparC s).2.a < s.size then rfail (rparC s).2 (rparC s).2.a 1 else (rparC s).2
def rParseC (s : ByteArray) : JV × Int × Int :=
  if 20000 < s.size then (vz, 5, 20000) else if (rparEC s).bad = 0 then ((rparC s).1, 0, 0) else (vz, (rparEC s).bad, (rparEC s).spot)
theorem rParse_C {s : ByteArray} (hs : s.size ≤ 1000) : rParse s = rParseC s := by
  have e : rpar s = rparC s := by unfold rpar rparC; rw [rval_C hs]
  unfold rParse rParseC rparE rparEC; rw [e]
end Lg
namespace Lg
open Go
theorem ljw_ne {l : List JV} {i : Nat} (c : UInt8) (h : i < l.length) (h0 : i ≠ 0) : ljw c (l.take i) ≠ [] := by
  cases l with
  | nil => simp at h
  | cons a r => obtain ⟨i, rfl⟩ : ∃ j, i = j + 1 := ⟨i - 1, by omega⟩; simp [ljw]
theorem mjw_ne {l : List (ByteArray × JV)} {i : Nat} (c : UInt8) (h : i < l.length) (h0 : i ≠ 0) : mjw c (l.take i) ≠ [] := by
  cases l with
  | nil => simp at h
  | cons a r => obtain ⟨i, rfl⟩ : ∃ j, i = j + 1 := ⟨i - 1, by omega⟩; obtain ⟨k, y⟩ := a; simp [mjw]
theorem tail_app {a b : BL} (h : a ≠ []) : (a ++ b).tail = a.tail ++ b := by cases a with
  | nil => exact absurd rfl h
  | cons => rfl
theorem ljw_tail {l : List JV} {i : Nat} {x : JV} (h : l[i]? = some x) : (ljw 44 (l.take (i + 1))).tail = (if i = 0 then [] else (ljw 44 (l.take i)).tail ++ [44]) ++ jtx x := by
  have hi := (List.getElem?_eq_some_iff.1 h).1
  rw [ljw_take 44 h]
  split
  · rename_i h0; subst h0; simp [ljw]
  · rename_i h0; rw [tail_app (ljw_ne 44 hi h0)]; simp
theorem mjw_tail {l : List (ByteArray × JV)} {i : Nat} {x : ByteArray × JV} (h : l[i]? = some x) : (mjw 44 (l.take (i + 1))).tail = (if i = 0 then [] else (mjw 44 (l.take i)).tail ++ [44]) ++ (quoteL x.1.data.toList ++ 58 :: jtx x.2) := by
  have hi := (List.getElem?_eq_some_iff.1 h).1
  rw [mjw_take 44 h]
  split
  · rename_i h0; subst h0; simp [mjw]
  · rename_i h0; rw [tail_app (mjw_ne 44 hi h0)]; simp
theorem jtx_4 {v : JV} (h : v.kind = 4) : jtx v = 91 :: ((ljw 44 v.l).tail ++ [93]) := by
  rw [jtx_eq, if_neg (by omega), if_neg (by omega), if_neg (by omega), if_pos h, ljw_head]
  split
  · rename_i h0; rw [List.length_eq_zero_iff.1 h0]; rfl
  · rfl
theorem jtx_5 {v : JV} (h : v.kind = 5) : jtx v = 123 :: ((mjw 44 v.m).tail ++ [125]) := by
  rw [jtx_eq, if_neg (by omega), if_neg (by omega), if_neg (by omega), if_neg (by omega), if_pos h, mjw_head]
  split
  · rename_i h0; rw [List.length_eq_zero_iff.1 h0]; rfl
  · rfl
def ex5 : ByteArray := ⟨#[123, 34, 98, 34, 58, 49, 46, 48, 44, 32, 34, 97, 34, 58, 91, 93, 125]⟩
theorem ex5_0 : (rParse ex5).2.1 = 0 := by rw [rParse_C (by decide)]; decide +kernel
theorem ex5_t : jtx (rParse ex5).1 = [123, 34, 97, 34, 58, 91, 93, 44, 34, 98, 34, 58, 49, 125] := by rw [rParse_C (by decide)]; decide +kernel
theorem ex5_ok [GLay] : jb (rParse ex5).1 ∧ jkb (rParse ex5).1 ∧ jsize (rParse ex5).1 ≤ 100 := by
  obtain ⟨h1, h2, h3, h4⟩ := rParse_ok ex5 ex5_0
  have h5 : ex5.size = 17 := rfl
  exact ⟨h2, may_kb _ _ (show jsize (rParse ex5).1 ≤ ((1000 : Nat) : Int) by omega) h1, by omega⟩
theorem vz_jb : jb vz ∧ jkb vz := by
  constructor
  · exact ⟨Nat.zero_le _, Nat.zero_le _, Nat.zero_le _, Nat.zero_le _, trivial, trivial⟩
  · exact ⟨by decide, by decide, ⟨by decide, by decide⟩, trivial, trivial⟩
theorem vz_tx : jtx vz = nullL := by rfl
end Lg
namespace Lg
open Go Go.RowKit
variable [GLay]
/-! ### Maps of the call's own -/
theorem Good.newMap {s : CS} (g : Good s) : ∃ s', s'.σ = s.σ ++ [.map []] ∧ s'.w = s.w.alloc (.map #[] 0) ∧ Good s' ∧ Ext s s' ∧ V s' (.mapv s.σ.length) (.map (some s.w.heap.size)) := by
  let s' : CS := { σ := s.σ ++ [.map []], μ := fun p => if p = s.σ.length then ⟨s.w.heap.size, 0, 0⟩ else s.μ p, ok := s.ok, w := s.w.alloc (.map #[] 0) }
  have hold : ∀ {p : Nat}, p < s.σ.length → s'.σ[p]? = s.σ[p]? ∧ s'.μ p = s.μ p := fun {p} h =>
    ⟨by show (s.σ ++ [_])[p]? = _; rw [List.getElem?_append_left h], by show (if p = _ then _ else _) = _; rw [if_neg (by omega)]⟩
  have hnew : s'.σ[s.σ.length]? = some (.map []) ∧ s'.μ s.σ.length = ⟨s.w.heap.size, 0, 0⟩ := ⟨by show (s.σ ++ [_])[_]? = _; simp, by show (if _ = _ then _ else _) = _; rw [if_pos rfl]⟩
  have hl : s'.σ.length = s.σ.length + 1 := by show (s.σ ++ [_]).length = _; simp
  have hcase : ∀ {p : Nat} {o : AO}, s'.σ[p]? = some o → (p < s.σ.length ∧ s.σ[p]? = some o ∧ s'.μ p = s.μ p) ∨ (p = s.σ.length ∧ o = .map []) := fun {p o} h => by
    have hp' := (List.getElem?_eq_some_iff.1 h).1
    rcases Nat.lt_or_ge p s.σ.length with hp | hp
    · exact .inl ⟨hp, (hold hp).1 ▸ h, (hold hp).2⟩
    · have e : p = s.σ.length := by omega
      subst e; rw [hnew.1] at h; exact .inr ⟨rfl, (Option.some.inj h).symm⟩
  have hlive : ∀ {p : Nat}, s'.live p → (p < s.σ.length ∧ s.live p ∧ s'.μ p = s.μ p) ∨ p = s.σ.length := fun {p} h => by
    have hp := CS.live_lt h
    rcases Nat.lt_or_ge p s.σ.length with h1 | h1
    · refine .inl ⟨h1, ?_, (hold h1).2⟩
      unfold CS.live at h ⊢
      rw [(hold h1).1, (hold h1).2] at h
      exact h
    · exact .inr (by omega)
  have hsz : s'.w.heap.size = s.w.heap.size + 1 := alloc_size _ _
  have hheap : ∀ {b : Nat}, b < s.w.heap.size → s'.w.heap[b]? = s.w.heap[b]? := fun {b} hb => by
    show (s.w.alloc _).heap[b]? = _; rw [alloc_heap, if_neg (by omega)]
  have hlt : ∀ {p : Nat} {o : AO}, s.σ[p]? = some o → p < s.σ.length := fun h => (List.getElem?_eq_some_iff.1 h).1
  have x : Ext s s' := {
    objs := fun p o h => ⟨o, by rw [(hold (hlt h)).1]; exact h, OLe.refl o, fun _ => (hold (hlt h)).2⟩
    ok := fun _ h => h
    okn := fun _ h => .inl h
    mun := fun p h => by
      rcases hlive h with ⟨h1, h2, h3⟩ | rfl
      · exact .inl ⟨h1, h2, by rw [h3]⟩
      · exact .inr (by rw [hnew.2]; exact Nat.le_refl _)
    frame := fun b hb _ => hheap hb
    size := by omega
    shp := fun p cs cs' z h1 _ h3 => by rw [(hold (hlt h1)).2]; exact (shape_eq (hheap (shape_some h3))).trans h3
    tape := rfl
    os := rfl
    output := rfl }
  refine ⟨s', rfl, rfl, ⟨fun b hb => Nat.lt_of_lt_of_le (g.okb b hb) x.size, fun p o ho => ?_, fun p q hpq hp hq => ?_, fun b o ho => ?_⟩, x, ?_⟩
  · rcases hcase ho with ⟨h1, h2, h3⟩ | ⟨rfl, rfl⟩
    · exact ORep.keep g x h2 h3 (fun hl => (g.live_lt hl).2) (fun hl => hheap (g.live_lt hl).1)
    · refine ⟨?_, [], 0, ?_, PW.nil⟩
      · rw [hnew.2]; exact fun hk => absurd (g.okb _ hk) (by simp)
      · rw [hnew.2]; show (s.w.alloc _).heap[_]? = _; rw [alloc_heap, if_pos rfl]
  · rcases hlive hp with ⟨p1, p2, p3⟩ | rfl <;> rcases hlive hq with ⟨q1, q2, q3⟩ | rfl
    · rw [p3, q3]; exact g.inj p q hpq p2 q2
    · rw [p3, hnew.2]; have := (g.live_lt p2).1; show _ ≠ s.w.heap.size; omega
    · rw [q3, hnew.2]; have := (g.live_lt q2).1; show s.w.heap.size ≠ _; omega
    · exact absurd rfl hpq
  · obtain ⟨h1, h2⟩ := g.glob b o ho
    exact ⟨h1, (hheap (g.okb b h1)).trans h2⟩
  · have := V.mapv (s := s') s.σ.length [] hnew.1
    rw [hnew.2] at this
    exact this
theorem Good.setMap {s : CS} (g : Good s) {p : Nat} {l l' : List (AV × AV)} (ho : s.σ[p]? = some (.map l)) {es : List MapEntry} {c : Nat} (hv : PW s (mflat l') (mflat (es.map fun e => (e.key, e.val)))) :
    ∃ s', s'.σ = s.σ.set p (.map l') ∧ s'.w = { s.w with heap := s.w.heap.setIfInBounds (s.μ p).b (.map es.toArray c) } ∧ Good s' ∧ Ext s s' := by
  have hp : s.live p := by unfold CS.live; rw [ho]; trivial
  have hblt := (g.live_lt hp).1
  have hlt : p < s.σ.length := (List.getElem?_eq_some_iff.1 ho).1
  let s' : CS := { s with σ := s.σ.set p (.map l'), w := { s.w with heap := s.w.heap.setIfInBounds (s.μ p).b (.map es.toArray c) } }
  have hso : ∀ b, b ≠ (s.μ p).b → s'.w.heap[b]? = s.w.heap[b]? := fun b hb => by
    show (s.w.heap.setIfInBounds _ _)[b]? = _; rw [Array.getElem?_setIfInBounds, if_neg (fun e => hb e.symm)]
  have hst : s'.w.heap[(s.μ p).b]? = some (.map es.toArray c) := by
    show (s.w.heap.setIfInBounds _ _)[_]? = _; rw [Array.getElem?_setIfInBounds, if_pos rfl, if_pos hblt]
  have hother : ∀ {q : Nat}, q ≠ p → s'.σ[q]? = s.σ[q]? := fun {q} hq => by
    show (s.σ.set p _)[q]? = _; rw [List.getElem?_set, if_neg (fun e => hq e.symm)]
  have hthis : s'.σ[p]? = some (.map l') := by show (s.σ.set p _)[p]? = _; simp [hlt]
  have hlive' : ∀ {q : Nat}, s'.live q → s.live q := fun {q} hq => by
    by_cases e : q = p
    · subst e; exact hp
    · unfold CS.live at hq ⊢; rw [hother e] at hq; exact hq
  have x : Ext s s' := {
    objs := fun q r hr => by
      by_cases e : q = p
      · subst e
        rw [ho] at hr; cases hr
        exact ⟨_, hthis, .map _ _, fun _ => rfl⟩
      · exact ⟨r, by rw [hother e]; exact hr, OLe.refl r, fun _ => rfl⟩
    ok := fun _ h => h
    okn := fun _ h => .inl h
    mun := fun q hq => .inl ⟨CS.live_lt (hlive' hq), hlive' hq, rfl⟩
    frame := fun b _ hne => hso b (fun e => hne p hp e.symm)
    size := by show _ ≤ (s.w.heap.setIfInBounds _ _).size; simp
    shp := fun q cs cs' z h1 h2 h3 => by
      by_cases e : q = p
      · subst e; rw [ho] at h1; cases h1
      · have hq : s.live q := by unfold CS.live; rw [h1]; trivial
        exact (shape_eq (hso _ (fun e2 => g.inj q p e hq hp e2))).trans h3
    tape := rfl
    os := rfl
    output := rfl }
  refine ⟨s', rfl, rfl, ⟨fun b hb => Nat.lt_of_lt_of_le (g.okb b hb) x.size, fun q r hr => ?_, fun q q' hne h1 h2 => g.inj q q' hne (hlive' h1) (hlive' h2), fun b r hr => ?_⟩, x⟩
  · by_cases e : q = p
    · subst e
      rw [hthis] at hr; cases hr
      exact ⟨(g.live_lt hp).2, es, c, hst, hv.mono g x⟩
    · have hr' : s.σ[q]? = some r := by rw [← hother e]; exact hr
      exact ORep.keep g x hr' rfl (fun hq => (g.live_lt hq).2) (fun hq => hso _ (g.inj q p e hq hp))
  · obtain ⟨h1, h2⟩ := g.glob b r hr
    exact ⟨h1, (hso b (fun e => (g.live_lt hp).2 (e ▸ h1))).trans h2⟩
variable {P : Program} {σ l : List AO} {e : Env} {o : Oper} {p : Nat} {x : AO}
theorem op_makeMap {T : TypeId} (ho : o.op = .makeMap T none) : AOp P σ e o (.mapv σ.length) (σ ++ [.map []]) := by
  intro s a hs g hv K Q hk _
  subst hs
  obtain ⟨s', e1, e2, g', x', hv'⟩ := g.newMap
  refine wp_value (w' := s'.w) ?_ (hk _ _ s' ⟨rfl, e1⟩ g' x' hv')
  rw [e2]
  simp [execOp, ho, Instr.makeMap, Sem.run]
theorem V.inv_mapv {s : CS} {c : Value} (h : V s (.mapv p) c) : c = .map (some (s.μ p).b) := by cases h; rfl
/-! ### Keys that are strings -/
theorem ba_eqq (a b : ByteArray) : (a == b) = decide (a = b) := by
  obtain ⟨a⟩ := a
  obtain ⟨b⟩ := b
  show (a == b) = _
  by_cases h : a = b
  · subst h; simp
  · have : ¬ (ByteArray.mk a = ByteArray.mk b) := fun e => h (by injection e)
    simp [h, this]
def smap (m : List (ByteArray × AV)) : List (AV × AV) := m.map fun q => (.str q.1, q.2)
def mget : List (ByteArray × AV) → ByteArray → Option (Nat × AV)
  | [], _ => none
  | (x, v) :: r, k => if k = x then some (0, v) else (mget r k).map fun z => (z.1 + 1, z.2)
theorem findNow_s {s : CS} (k : ByteArray) : ∀ (m : List (ByteArray × AV)) (es : List MapEntry) (i : Nat), PW s (mflat (smap m)) (mflat (es.map fun e => (e.key, e.val))) →
    ∃ r, Instr.findNow .string (.string k) es i = some r ∧ (match mget m k with
      | none => r = none
      | some (j, v) => ∃ c, r = some (i + j, c) ∧ V s v c)
  | [], es, i, h => by
    have := h.inv_nil
    cases es with
    | nil => exact ⟨none, rfl, rfl⟩
    | cons a r => simp [mflat] at this
  | (y, v) :: m, es, i, h => by
    cases es with
    | nil => have := h.1; simp [smap, mflat] at this
    | cons a r =>
      have h' : PW s (.str y :: v :: mflat (smap m)) (a.key :: a.val :: mflat (r.map fun e => (e.key, e.val))) := h
      have k1 := h'.2 0 _ _ rfl rfl
      have k2 := h'.2 1 _ _ rfl rfl
      have k3 : PW s (mflat (smap m)) (mflat (r.map fun e => (e.key, e.val))) := by
        obtain ⟨q, qs, e1, _, h2⟩ := h'.inv_cons
        obtain ⟨q2, qs2, e2, _, h3⟩ := h2.inv_cons
        cases e1; cases e2; exact h3
      simp only [Instr.findNow, k1.inv_str, Instr.sameNow]
      simp only [mget]
      by_cases hk : k = y
      · subst hk
        rw [if_pos rfl]
        refine ⟨some (i, a.val), ?_, a.val, rfl, k2⟩
        rw [show (k == k) = true by rw [ba_eqq]; simp]
      · rw [if_neg hk]
        obtain ⟨r', h1, h2⟩ := findNow_s k m r (i + 1) k3
        refine ⟨r', ?_, ?_⟩
        · rw [show (k == y) = false by rw [ba_eqq]; simpa using hk]; exact h1
        · revert h2
          cases mget m k with
          | none => exact id
          | some z => obtain ⟨j, v'⟩ := z; rintro ⟨c, e1, e2⟩; exact ⟨c, by rw [e1]; congr 1; congr 1; omega, e2⟩
instance : LawfulBEq ByteArray where
  eq_of_beq {a b} h := by rw [ba_eqq] at h; exact of_decide_eq_true h
  rfl {a} := by rw [ba_eqq]; exact decide_eq_true rfl
theorem mget_map (f : AV) (ks : List ByteArray) (k : ByteArray) : (mget (ks.map fun x => (x, f)) k).map (·.2) = if k ∈ ks then some f else none := by
  induction ks with
  | nil => simp [mget]
  | cons a r ih =>
    simp only [List.map_cons, mget]
    by_cases h : k = a
    · subst h; simp
    · rw [if_neg h]
      simp only [Option.map_map, List.mem_cons, h, false_or]
      rw [← ih]
      cases mget (r.map fun x => (x, f)) k <;> rfl
section
variable {T K E : TypeId} {a b c : Operand} {m : List (ByteArray × AV)} {k : ByteArray} {z : Value}
theorem op_lookupS (ho : o.op = .lookup T a b false) (hu : P.underlying T = some (.map K E)) (hK : P.underlying K = some .string) (hz : ∀ w, (zeroValue E).run P w = Result.ok z w) (hx : opO e a = some (.mapv p)) (hy : opO e b = some (.str k))
    (hσ : σ[p]? = some (.map (smap m))) : AOp P σ e o (((mget m k).map (·.2)).getD (ofConst z)) σ :=
  .of_run fun s ac hs g hv => by
    subst hs
    have h1 := opO_eq hx ▸ hv a (by simp [ho, Op.operands])
    have h2 := (opO_eq hy ▸ hv b (by simp [ho, Op.operands])).inv_str
    have h1' := h1.inv_mapv
    obtain ⟨hnok, es, ck, hb, hpw⟩ := g.obj p _ hσ
    obtain ⟨r, hr, hm⟩ := findNow_s k m es 0 hpw
    have hc : ∀ em, (Instr.checkKey em 10000 K (.string k)).run P s.w = .ok () s.w := fun em => MapKept.run_checkKey (k := .string k) hK (by simp [MapKept.IsKey]) em 9999
    have hf : (Instr.findKey K (.string k) es).run P s.w = .ok r s.w := MapKept.run_findKey hK hr
    cases hg : mget m k with
    | none =>
      rw [hg] at hm
      subst hm
      refine ⟨z, ?_, by simpa using V_ofConst s z⟩
      simp [execOp, ho, h1', h2, Instr.lookup, run_underlying hu, MapKept.run_getObj_map hb, hc, hf, hz, Result.andThen]
    | some y =>
      obtain ⟨j, v⟩ := y
      rw [hg] at hm
      obtain ⟨cv, rfl, hcv⟩ := hm
      refine ⟨cv, ?_, by simpa using hcv⟩
      simp [execOp, ho, h1', h2, Instr.lookup, run_underlying hu, MapKept.run_getObj_map hb, hc, hf, Result.andThen]
/-- A key that isn't there yet. -/
theorem op_mapUpdS {v : AV} (ho : o.op = .mapUpdate T a b c) (hu : P.underlying T = some (.map K E)) (hK : P.underlying K = some .string) (hx : opO e a = some (.mapv p)) (hy : opO e b = some (.str k)) (hc : opO e c = some v)
    (hσ : σ[p]? = some (.map (smap m))) (hn : mget m k = none) : AOp P σ e o .any (σ.set p (.map (smap (m ++ [(k, v)])))) := by
  intro s ac hs g hv Kk Q hk _
  subst hs
  have h1 := opO_eq hx ▸ hv a (by simp [ho, Op.operands])
  have h2 := (opO_eq hy ▸ hv b (by simp [ho, Op.operands])).inv_str
  have h3 := opO_eq hc ▸ hv c (by simp [ho, Op.operands])
  have h1' := h1.inv_mapv
  obtain ⟨hnok, es, ck, hb, hpw⟩ := g.obj p _ hσ
  obtain ⟨r, hr, hm⟩ := findNow_s k m es 0 hpw
  rw [hn] at hm
  subst hm
  have hcc : (Instr.checkKey false 10000 K (.string k)).run P s.w = .ok () s.w := MapKept.run_checkKey (k := .string k) hK (by simp [MapKept.IsKey]) false 9999
  have hf : (Instr.findKey K (.string k) es).run P s.w = .ok none s.w := MapKept.run_findKey hK hr
  have mf : ∀ {α : Type} (x y : List (α × α)), mflat (x ++ y) = mflat x ++ mflat y := fun {α} x y => by
    induction x with
    | nil => rfl
    | cons q r ih => simp [mflat, ih]
  obtain ⟨s', e1, e2, g', x'⟩ := g.setMap hσ (l' := smap (m ++ [(k, v)])) (es := es ++ [{ key := .string k, val := ac.eval c, born := ck }]) (c := ck + 1) (by
    simp only [smap, List.map_append, mf]
    exact hpw.append (PW.cons (.str k) (PW.cons h3 PW.nil)))
  refine wp_skipv (w' := s'.w) ?_ (hk .any undef s' ⟨rfl, e1⟩ g' x' (.any _))
  rw [e2]
  simp [execOp, ho, h1', h2, Instr.mapUpdate, run_underlying hu, MapKept.run_getObj_map hb, hcc, hf, MapKept.run_setObj_map _ hb, Result.andThen]
end
end Lg
namespace Lg
open Go
theorem ltLL_str (m : Nat) (l : List ByteArray) : AV.ltLL m (l.map fun x => [AV.str x]) := by
  induction l with
  | nil => simp [AV.ltLL]
  | cons x l ih => simp [AV.ltLL, AV.ltL, AV.lt]; simpa using ih
/-! ### Keywords -/
def kwL : List (ByteArray × Nat) := [
 (⟨#[116, 121, 112, 101]⟩, 1),
 (⟨#[101, 110, 117, 109]⟩, 2),
 (⟨#[99, 111, 110, 115, 116]⟩, 3),
 (⟨#[109, 105, 110, 105, 109, 117, 109]⟩, 4),
 (⟨#[109, 97, 120, 105, 109, 117, 109]⟩, 4),
 (⟨#[109, 105, 110, 76, 101, 110, 103, 116, 104]⟩, 5),
 (⟨#[109, 97, 120, 76, 101, 110, 103, 116, 104]⟩, 5),
 (⟨#[109, 105, 110, 73, 116, 101, 109, 115]⟩, 5),
 (⟨#[109, 97, 120, 73, 116, 101, 109, 115]⟩, 5),
 (⟨#[117, 110, 105, 113, 117, 101, 73, 116, 101, 109, 115]⟩, 6),
 (⟨#[114, 101, 113, 117, 105, 114, 101, 100]⟩, 7),
 (⟨#[105, 116, 101, 109, 115]⟩, 8),
 (⟨#[97, 100, 100, 105, 116, 105, 111, 110, 97, 108, 80, 114, 111, 112, 101, 114, 116, 105, 101, 115]⟩, 8),
 (⟨#[110, 111, 116]⟩, 8),
 (⟨#[112, 114, 111, 112, 101, 114, 116, 105, 101, 115]⟩, 9),
 (⟨#[36, 100, 101, 102, 115]⟩, 9),
 (⟨#[97, 108, 108, 79, 102]⟩, 10),
 (⟨#[97, 110, 121, 79, 102]⟩, 10),
 (⟨#[111, 110, 101, 79, 102]⟩, 10),
 (⟨#[36, 114, 101, 102]⟩, 11)]
/-- Which kind of keyword a name is; 0: none. -/
def rk (n : ByteArray) : Nat := ((kwL.find? fun q => decide (n = q.1)).map (·.2)).getD 0
def schB (v : JV) : Bool := decide (v.kind = 1) || decide (v.kind = 5)
def tyL : List ByteArray := [⟨#[110, 117, 108, 108]⟩, ⟨#[98, 111, 111, 108, 101, 97, 110]⟩, ⟨#[110, 117, 109, 98, 101, 114]⟩, ⟨#[105, 110, 116, 101, 103, 101, 114]⟩, ⟨#[115, 116, 114, 105, 110, 103]⟩, ⟨#[97, 114, 114, 97, 121]⟩, ⟨#[111, 98, 106, 101, 99, 116]⟩]
def tyB (v : JV) : Bool := decide (v.kind = 3) && tyL.any (fun t => decide (v.s = t))
/-- All are texts, no two the same. -/
def txI (l : List JV) (i : Nat) : Prop := ∀ (a : Nat) x, a < i → l[a]? = some x → x.kind = 3 ∧ ∀ (b : Nat) y, b < a → l[b]? = some y → ¬ x.s = y.s
noncomputable def txB (v : JV) : Bool := pb (txI v.l v.l.length) && decide (v.kind = 4)
noncomputable def kOK (c : Nat) (v : JV) : Bool := match c with
  | 1 => tyB v || (txB v && decide (0 < v.l.length) && v.l.all tyB)
  | 2 => decide (v.kind = 4) && decide (0 < v.l.length)
  | 3 => true
  | 4 => decide (v.kind = 2)
  | 5 => decide (v.kind = 2) && rWhole v.n && !v.n.neg
  | 6 => decide (v.kind = 1)
  | 7 => txB v
  | 8 => schB v
  | 9 => decide (v.kind = 5) && v.m.all (fun q => schB q.2)
  | 10 => decide (v.kind = 4) && decide (0 < v.l.length) && v.l.all schB
  | 11 => decide (v.kind = 3)
  | _ => false
/-- What a name tells of a value: 0: it may have it. -/
noncomputable def rShape (n : ByteArray) (v : JV) : Int := if rk n = 0 then 10 else if kOK (rk n) v = true then 0 else 11
/-- The schemas in it. -/
def kidsM (n : ByteArray) (v : JV) : List (ByteArray × JV) :=
  if rk n = 8 then [(e0, v)] else if rk n = 9 then v.m else if rk n = 10 then v.l.zipIdx.map (fun q => (itoaB q.2, q.1)) else []
end Lg
namespace Lg
open Go Go.RowKit
section
variable [GLay]
variable {P : Program} {N : Nat} {σ l : List AO} {e : Env} {Q : QA} {o : Oper}
/-- A slot's value, taken for something as good. -/
theorem AWp_slotLe {c : Code} (t : Nat) {v w : AV} (hl : lookO e.l t = some v) (hle : AVle v w) (k : AWp P N c (e.put (some t) w) σ Q) (ht : t < N) : AWp P N c e σ Q := fun s0 s a hs g x he => by
  subst hs
  have hv := he.tmps t
  rw [show e.look t = v from lookO_eq hl] at hv
  exact k s0 s a rfl g x (by
    have h1 := he.put (some t) (hle _ _ hv) (fun d hd => by cases hd; exact ht)
    have h2 : a.put (some t) (a.eval (.tmp t)) = a := put_self (by rw [he.size]; exact ht)
    rwa [h2] at h1)
/-- A nil slice in a slot becomes a slice of an array of no block. -/
theorem AWp_ghostT {c : Code} (t sz : Nat) (hl : lookO e.l t = some .nils) (k : AWp P N c (e.put (some t) (.arr σ.length 0 sz 0 0)) (σ ++ [AO.arr sz 0 []]) Q) (ht : t < N) : AWp P N c e σ Q := fun s0 s a hs g x he => by
  subst hs
  obtain ⟨s1, e1, e2, g1, x1⟩ := g.ghost sz
  have hv := (he.mono g x1).tmps t
  rw [show e.look t = .nils from lookO_eq hl] at hv
  have hv0 := hv.inv_nils
  have hv' : V s1 (.arr s.σ.length 0 sz 0 0) (a.eval (.tmp t)) := by
    rw [hv0]; exact .arr _ _ _ _ _ _ rfl (.mk (cs := []) (by rw [e1]; simp) ⟨rfl, .inl ⟨none, rfl, rfl⟩⟩)
  have := k s0 s1 a e1 g1 (x.trans x1) (by
    have h1 := (he.mono g x1).put (some t) hv' (fun d hd => by cases hd; exact ht)
    have h2 : a.put (some t) (a.eval (.tmp t)) = a := put_self (by rw [he.size]; exact ht)
    rwa [h2] at h1)
  rwa [e2] at this
theorem AWp_ghostTO {c : Code} (t sz n : Nat) (hn : l.length = n) (hl : lookO e.l t = some .nils) (k : AWp P N c (e.put (some t) (.arr (σ.length + n) 0 sz 0 0)) (σ ++ (l ++ [AO.arr sz 0 []])) Q) (ht : t < N) : AWp P N c e (σ ++ l) Q :=
  AWp_ghostT t sz hl (by rw [List.length_append, hn, List.append_assoc]; exact k) ht
theorem AWp_freezeMO {c : Code} (t k gg n : Nat) (m : List (ByteArray × JV)) (hn : m.length = n) (hl : lookO e.l t = some (.arr (σ.length + k) gg 9 0 n)) (hk : l[k]? = some (.arr 9 gg (mcells m).flatten)) (h : AWp P N c (e.put (some t) (.sl false 9 (mcells m))) (σ ++ l.set k .dead) Q) (ht : t < N) : AWp P N c e (σ ++ l) Q :=
  AWp_freezeArr t (σ.length + k) gg 9 0 n hl (by rw [get_own]; exact hk) (mcells m) (by rw [Nat.zero_mul, List.drop_zero, ← hn, ← mflat_len, List.take_length]) (mrows_len _) (by rw [mcells_length, hn]) (by decide) (by rw [mflat_len]; omega) (by rw [set_own]; exact h) ht
/-- A slice asked whether it is nil: an empty one may be, or may not. -/
theorem op_eqSlR {T T' E : TypeId} {x : Operand} {f : Bool} {sz : Nat} {es : List (List AV)} (ho : o.op = .binOp .eql T x (.const (.slice none 0 0)) T') (hu : P.underlying T = some (.slice E)) (hx : opO e x = some (.sl f sz es)) :
    AOpR P σ e o (fun v σ' => σ' = σ ∧ ∃ b, v = .bool b ∧ (b = true → es = [])) (fun _ _ => False) := fun s a hs g hv K Q hk hq => by
  have h1 := opO_eq hx ▸ hv x (by simp [ho, Op.operands])
  obtain ⟨ad, len, cap, hc, hn⟩ : ∃ ad len cap, a.eval x = .slice ad len cap ∧ (ad = none → es = []) := by
    rcases h1.inv_sl with ⟨ad, h, he⟩ | ⟨b, off, cap, vs, h, _⟩
    · exact ⟨ad, 0, 0, h, fun _ => he⟩
    · exact ⟨_, _, _, h, fun h => by cases h⟩
  have he : ∀ d, (Go.Op.equalIn (d + 1) T (.slice ad len cap) (.slice none 0 0)).run P s.w = .ok ad.isNone s.w := fun d => by cases ad <;> simp [Go.Op.equalIn, run_underlying hu]
  have he' : (Go.Op.equal T (.slice ad len cap) (.slice none 0 0)).run P s.w = .ok ad.isNone s.w := he 9999
  have hb : (binOp .eql T (.slice ad len cap) (.slice none 0 0)).run P s.w = .ok (.bool ad.isNone) s.w := by
    simp only [binOp]; simp [he']
  have hg : (eqGuard .eql T x (.const (.slice none 0 0)) (.slice ad len cap) (.slice none 0 0)).run P s.w = .ok () s.w := by
    simp [eqGuard]
  have hrun : (execOp a.eval o).run P s.w = .ok (.value (.bool ad.isNone)) s.w := by
    have hc2 : a.eval (.const (.slice none 0 0)) = .slice none 0 0 := rfl
    simp [execOp, ho, hc, hc2, hb, hg]
  exact wp_value hrun (hk (.bool ad.isNone) _ s ⟨hs, _, rfl, fun h => hn (by simpa using h)⟩ g (Ext.refl s) (.bool _))
end
/-! ### Kids -/
def kZ (l : List JV) : List (ByteArray × JV) := l.zipIdx.map fun q => (itoaB q.2, q.1)
theorem kZ_len (l : List JV) : (kZ l).length = l.length := by simp [kZ]
theorem kZ_take {l : List JV} {i : Nat} {x : JV} (hx : l[i]? = some x) : kZ (l.take (i + 1)) = kZ (l.take i) ++ [(itoaB i, x)] := by
  have hi := (List.getElem?_eq_some_iff.1 hx).1
  unfold kZ
  rw [List.take_add_one, hx, List.zipIdx_append, List.map_append]
  simp [Nat.min_eq_left (Nat.le_of_lt hi)]
theorem zi_all (p : JV → Bool) (f : Nat → ByteArray) (l : List JV) : ∀ k, ((l.zipIdx k).map fun q => (f q.2, q.1)).all (fun q => p q.2) = l.all p := by
  induction l with
  | nil => intro k; rfl
  | cons a r ih => intro k; simp only [List.zipIdx_cons, List.map_cons, List.all_cons]; rw [ih]
theorem kZ_all (p : JV → Bool) (l : List JV) : (kZ l).all (fun q => p q.2) = l.all p := zi_all p (fun n => itoaB n) l 0
theorem mcells_snoc [GLay] (m : List (ByteArray × JV)) (q : ByteArray × JV) : (mcells (m ++ [q])).flatten = (mcells m).flatten ++ mrow q := by
  rw [mcells_map, mcells_map]; simp
theorem txI_step {l : List JV} {i : Nat} {x : JV} (hi : txI l i) (hx : l[i]? = some x) (h2 : x.kind = 3) (hn : ∀ (b : Nat) y, b < i → l[b]? = some y → ¬ x.s = y.s) : txI l (i + 1) := by
  intro a y ha hy
  by_cases e : a = i
  · subst e; rw [hx] at hy; cases hy; exact ⟨h2, hn⟩
  · exact hi a y (by omega) hy
end Lg
namespace Lg
open Go Go.RowKit
variable [GLay]
/-! ### Maps of the call's own -/
/-! ### Keys that are ints -/
def imap (m : List (Int × AV)) : List (AV × AV) := m.map fun q => (.int .i64 q.1, q.2)
def iget : List (Int × AV) → Int → Option (Nat × AV)
  | [], _ => none
  | (x, v) :: r, k => if k = x then some (0, v) else (iget r k).map fun z => (z.1 + 1, z.2)
theorem iget_none {m : List (Int × AV)} {k : Int} (h : ∀ q ∈ m, ¬ q.1 = k) : iget m k = none := by
  induction m with
  | nil => rfl
  | cons q r ih => obtain ⟨x, v⟩ := q; rw [iget, if_neg (fun e => h (x, v) (by simp) e.symm), ih (fun q hq => h q (by simp [hq]))]; rfl
theorem findNow_i {s : CS} (k : Int) : ∀ (m : List (Int × AV)) (es : List MapEntry) (i : Nat), PW s (mflat (imap m)) (mflat (es.map fun e => (e.key, e.val))) →
    ∃ r, Instr.findNow (.int .i64) (.int .i64 k) es i = some r ∧ (match iget m k with
      | none => r = none
      | some (j, v) => ∃ c, r = some (i + j, c) ∧ V s v c)
  | [], es, i, h => by
    have := h.inv_nil
    cases es with
    | nil => exact ⟨none, rfl, rfl⟩
    | cons a r => simp [mflat] at this
  | (y, v) :: m, es, i, h => by
    cases es with
    | nil => have := h.1; simp [imap, mflat] at this
    | cons a r =>
      have h' : PW s (.int .i64 y :: v :: mflat (imap m)) (a.key :: a.val :: mflat (r.map fun e => (e.key, e.val))) := h
      have k1 := h'.2 0 _ _ rfl rfl
      have k2 := h'.2 1 _ _ rfl rfl
      have k3 : PW s (mflat (imap m)) (mflat (r.map fun e => (e.key, e.val))) := by
        obtain ⟨q, qs, e1, _, h2⟩ := h'.inv_cons
        obtain ⟨q2, qs2, e2, _, h3⟩ := h2.inv_cons
        cases e1; cases e2; exact h3
      simp only [Instr.findNow, k1.inv_int, Instr.sameNow]
      simp only [iget]
      by_cases hk : k = y
      · subst hk
        rw [if_pos rfl]
        refine ⟨some (i, a.val), ?_, a.val, rfl, k2⟩
        simp
      · rw [if_neg hk]
        obtain ⟨r', h1, h2⟩ := findNow_i k m r (i + 1) k3
        refine ⟨r', ?_, ?_⟩
        · rw [show (k == y) = false by simpa using hk]; exact h1
        · revert h2
          cases iget m k with
          | none => exact id
          | some z => obtain ⟨j, v'⟩ := z; rintro ⟨c, e1, e2⟩; exact ⟨c, by rw [e1]; congr 1; congr 1; omega, e2⟩
variable {P : Program} {N : Nat} {σ : List AO} {e : Env} {o : Oper} {p : Nat}
theorem V.tup2 {s : CS} {a b : AV} {x y : Value} (h : V s a x) (k : V s b y) : V s (.tup [a, b]) (.tuple #[x, y]) :=
  .tup [a, b] [x, y] rfl (fun i c v h1 h2 => by
    match i, h1, h2 with
    | 0, h1, h2 => cases h1; cases h2; exact h
    | 1, h1, h2 => cases h1; cases h2; exact k)
section
variable {T K E : TypeId} {a b c : Operand} {m : List (Int × AV)} {k : Int} {z : Value}
theorem op_lookupI (ho : o.op = .lookup T a b false) (hu : P.underlying T = some (.map K E)) (hK : P.underlying K = some (.int .i64)) (hz : ∀ w, (zeroValue E).run P w = Result.ok z w) (hx : opO e a = some (.mapv p)) (hy : opO e b = some (.int .i64 k))
    (hσ : σ[p]? = some (.map (imap m))) : AOp P σ e o (((iget m k).map (·.2)).getD (ofConst z)) σ :=
  .of_run fun s ac hs g hv => by
    subst hs
    have h1 := opO_eq hx ▸ hv a (by simp [ho, Op.operands])
    have h2 := (opO_eq hy ▸ hv b (by simp [ho, Op.operands])).inv_int
    have h1' := h1.inv_mapv
    obtain ⟨hnok, es, ck, hb, hpw⟩ := g.obj p _ hσ
    obtain ⟨r, hr, hm⟩ := findNow_i k m es 0 hpw
    have hc : ∀ em, (Instr.checkKey em 10000 K (.int .i64 k)).run P s.w = .ok () s.w := fun em => MapKept.run_checkKey (k := .int .i64 k) hK (by simp [MapKept.IsKey]) em 9999
    have hf : (Instr.findKey K (.int .i64 k) es).run P s.w = .ok r s.w := MapKept.run_findKey hK hr
    cases hg : iget m k with
    | none =>
      rw [hg] at hm
      subst hm
      refine ⟨z, ?_, by simpa using V_ofConst s z⟩
      simp [execOp, ho, h1', h2, Instr.lookup, run_underlying hu, MapKept.run_getObj_map hb, hc, hf, hz, Result.andThen]
    | some y =>
      obtain ⟨j, v⟩ := y
      rw [hg] at hm
      obtain ⟨cv, rfl, hcv⟩ := hm
      refine ⟨cv, ?_, by simpa using hcv⟩
      simp [execOp, ho, h1', h2, Instr.lookup, run_underlying hu, MapKept.run_getObj_map hb, hc, hf, Result.andThen]
theorem op_lookupI2 (ho : o.op = .lookup T a b true) (hu : P.underlying T = some (.map K E)) (hK : P.underlying K = some (.int .i64)) (hz : ∀ w, (zeroValue E).run P w = Result.ok z w) (hx : opO e a = some (.mapv p)) (hy : opO e b = some (.int .i64 k))
    (hσ : σ[p]? = some (.map (imap m))) : AOp P σ e o (.tup [((iget m k).map (·.2)).getD (ofConst z), .bool (iget m k).isSome]) σ :=
  .of_run fun s ac hs g hv => by
    subst hs
    have h1 := opO_eq hx ▸ hv a (by simp [ho, Op.operands])
    have h2 := (opO_eq hy ▸ hv b (by simp [ho, Op.operands])).inv_int
    have h1' := h1.inv_mapv
    obtain ⟨hnok, es, ck, hb, hpw⟩ := g.obj p _ hσ
    obtain ⟨r, hr, hm⟩ := findNow_i k m es 0 hpw
    have hc : ∀ em, (Instr.checkKey em 10000 K (.int .i64 k)).run P s.w = .ok () s.w := fun em => MapKept.run_checkKey (k := .int .i64 k) hK (by simp [MapKept.IsKey]) em 9999
    have hf : (Instr.findKey K (.int .i64 k) es).run P s.w = .ok r s.w := MapKept.run_findKey hK hr
    cases hg : iget m k with
    | none =>
      rw [hg] at hm
      subst hm
      refine ⟨.tuple #[z, .bool false], ?_, V.tup2 (V_ofConst s z) (.bool _)⟩
      simp [execOp, ho, h1', h2, Instr.lookup, run_underlying hu, MapKept.run_getObj_map hb, hc, hf, hz, Result.andThen]
    | some y =>
      obtain ⟨j, v⟩ := y
      rw [hg] at hm
      obtain ⟨cv, rfl, hcv⟩ := hm
      refine ⟨.tuple #[cv, .bool true], ?_, V.tup2 hcv (.bool _)⟩
      simp [execOp, ho, h1', h2, Instr.lookup, run_underlying hu, MapKept.run_getObj_map hb, hc, hf, Result.andThen]
/-- A key that isn't there yet. -/
theorem op_mapUpdI {v : AV} (ho : o.op = .mapUpdate T a b c) (hu : P.underlying T = some (.map K E)) (hK : P.underlying K = some (.int .i64)) (hx : opO e a = some (.mapv p)) (hy : opO e b = some (.int .i64 k)) (hc : opO e c = some v)
    (hσ : σ[p]? = some (.map (imap m))) (hn : iget m k = none) : AOp P σ e o .any (σ.set p (.map (imap (m ++ [(k, v)])))) := by
  intro s ac hs g hv Kk Q hk _
  subst hs
  have h1 := opO_eq hx ▸ hv a (by simp [ho, Op.operands])
  have h2 := (opO_eq hy ▸ hv b (by simp [ho, Op.operands])).inv_int
  have h3 := opO_eq hc ▸ hv c (by simp [ho, Op.operands])
  have h1' := h1.inv_mapv
  obtain ⟨hnok, es, ck, hb, hpw⟩ := g.obj p _ hσ
  obtain ⟨r, hr, hm⟩ := findNow_i k m es 0 hpw
  rw [hn] at hm
  subst hm
  have hcc : (Instr.checkKey false 10000 K (.int .i64 k)).run P s.w = .ok () s.w := MapKept.run_checkKey (k := .int .i64 k) hK (by simp [MapKept.IsKey]) false 9999
  have hf : (Instr.findKey K (.int .i64 k) es).run P s.w = .ok none s.w := MapKept.run_findKey hK hr
  have mf : ∀ {α : Type} (x y : List (α × α)), mflat (x ++ y) = mflat x ++ mflat y := fun {α} x y => by
    induction x with
    | nil => rfl
    | cons q r ih => simp [mflat, ih]
  obtain ⟨s', e1, e2, g', x'⟩ := g.setMap hσ (l' := imap (m ++ [(k, v)])) (es := es ++ [{ key := .int .i64 k, val := ac.eval c, born := ck }]) (c := ck + 1) (by
    simp only [imap, List.map_append, mf]
    exact hpw.append (PW.cons (.int .i64 k) (PW.cons h3 PW.nil)))
  refine wp_skipv (w' := s'.w) ?_ (hk .any undef s' ⟨rfl, e1⟩ g' x' (.any _))
  rw [e2]
  simp [execOp, ho, h1', h2, Instr.mapUpdate, run_underlying hu, MapKept.run_getObj_map hb, hcc, hf, MapKept.run_setObj_map _ hb, Result.andThen]
end
theorem mflat_length {α : Type} (l : List (α × α)) : (mflat l).length = 2 * l.length := by
  induction l with
  | nil => rfl
  | cons q r ih => simp [mflat, ih]; omega
/-- How many keys. -/
theorem op_lenMap {T K E : TypeId} {x : Operand} {c : Array TypeId} {l : List (AV × AV)} (ho : o.op = .call { callee := .builtin .len, args := #[x], argTypes := c }) (hc : c[0]? = some T) (hu : P.underlying T = some (.map K E))
    (hx : opO e x = some (.mapv p)) (hσ : σ[p]? = some (.map l)) : AOp P σ e o (.int .i64 (l.length : Int)) σ :=
  .of_run fun s a hs g hv => by
    subst hs
    have h1 := (opO_eq hx ▸ hv x (by simp [ho, Op.operands, Call.operands])).inv_mapv
    obtain ⟨hnok, es, ck, hb, hpw⟩ := g.obj p _ hσ
    have hl : es.length = l.length := by
      have := hpw.1
      rw [mflat_length, mflat_length, List.length_map] at this
      omega
    refine ⟨.int .i64 (es.length : Int), ?_, by rw [hl]; exact .int _ _⟩
    simp [execOp, ho, resolve, invoke, builtin, h1, Builtin.len_, hc, run_underlying hu, goInt, MapKept.run_getObj_map hb, Result.andThen]
end Lg
namespace Lg
open Go Go.RowKit
variable [GLay] {P : Program} {N : Nat} {σ l : List AO} {e : Env} {Q : QA} {o : Oper}
/-- A nil slice, asked whether it is nil. -/
theorem op_eqNils {T T' E : TypeId} {x : Operand} (ho : o.op = .binOp .eql T x (.const (.slice none 0 0)) T') (hu : P.underlying T = some (.slice E)) (hx : opO e x = some .nils) : AOp P σ e o (.bool true) σ :=
  op_bin ho (opO_eq hx) rfl fun s cx cy _ _ h1 h2 => by
    have e1 := h1.inv_nils
    have e2 : cy = .slice none 0 0 := h2.inv_nils
    subst e1; subst e2
    have he : ∀ d, (Go.Op.equalIn (d + 1) T (.slice none 0 0) (.slice none 0 0)).run P s.w = .ok true s.w := fun d => by simp [Go.Op.equalIn, run_underlying hu]
    have he' : (Go.Op.equal T (.slice none 0 0) (.slice none 0 0)).run P s.w = .ok true s.w := he 9999
    exact ⟨.bool true, by simp only [binOp]; simp [he'], .bool _, by simp [eqGuard]⟩
/-- Two objects of the caller's are written; what is the call's own stays behind. -/
theorem set2_app {τ l : List AO} {p q : Nat} (hp : p < τ.length) (hq : q < τ.length) (x y : AO) : ((τ ++ l).set p x).set q y = (τ.set p x).set q y ++ l := by
  rw [List.set_append_left _ _ hp, List.set_append_left _ _ (by simpa using hq)]
theorem set2_len {τ : List AO} {p q n : Nat} {x y : AO} (h : τ.length = n) : ((τ.set p x).set q y).length = n := by simpa using h
theorem set2_set {τ : List AO} {p q : Nat} (h : p ≠ q) (x y x' y' : AO) : (((τ.set p x).set q y).set p x').set q y' = (τ.set p x').set q y' := by
  rw [List.set_comm _ _ (Ne.symm h), List.set_set, List.set_set]
end Lg
namespace Lg
open Go
/-! ### Trees (layer 16): the cells of a node that is done, its Ids one behind the other -/
def krow (m : List (ByteArray × JV)) : List (List AV) := m.map fun q => [AV.str q.1]
def bare8 (k : Int) (b : Bool) (n : JNum) (s : ByteArray) : List AV := [.int .i64 k, .bool b, .bool n.neg, .str n.digits, .int .i64 n.exp, .str s, .nils, .nils]
mutual
def tcells : JV → Int → List AV
  | .mk k b n s l m, id => .int .i64 id :: (bare8 k b n s ++ [.sl false 1 (krow m), .sl false 1 (tL l (id + 1) ++ tM m (id + 1 + lsize l))])
def tL : List JV → Int → List (List AV)
  | [], _ => []
  | x :: r, id => [.pp (tcells x id)] :: tL r (id + jsize x)
def tM : List (ByteArray × JV) → Int → List (List AV)
  | [], _ => []
  | (_, x) :: r, id => [.pp (tcells x id)] :: tM r (id + jsize x)
end
theorem tcells_eq (v : JV) (id : Int) : tcells v id = .int .i64 id :: (bare8 v.kind v.b v.n v.s ++ [.sl false 1 (krow v.m), .sl false 1 (tL v.l (id + 1) ++ tM v.m (id + 1 + lsize v.l))]) := by
  cases v; simp [tcells, JV.kind, JV.b, JV.n, JV.s, JV.l, JV.m]
theorem tL_snoc (x : JV) : ∀ (l : List JV) (id : Int), tL (l ++ [x]) id = tL l id ++ [[.pp (tcells x (id + lsize l))]]
  | [], id => by simp [tL, lsize]
  | y :: r, id => by
    rw [List.cons_append, tL, tL_snoc x r, tL, lsize, List.cons_append]
    rw [show id + jsize y + lsize r = id + (jsize y + lsize r) by omega]
theorem tM_snoc (q : ByteArray × JV) : ∀ (m : List (ByteArray × JV)) (id : Int), tM (m ++ [q]) id = tM m id ++ [[.pp (tcells q.2 (id + msize m))]]
  | [], id => by obtain ⟨k, x⟩ := q; simp [tM, msize]
  | (a, y) :: r, id => by
    rw [List.cons_append, tM, tM_snoc q r, tM, msize, List.cons_append]
    rw [show id + jsize y + msize r = id + (jsize y + msize r) by omega]
theorem tL_len : ∀ (l : List JV) (id : Int), (tL l id).length = l.length
  | [], _ => rfl
  | x :: r, id => by rw [tL, List.length_cons, tL_len r, List.length_cons]
theorem tM_len : ∀ (m : List (ByteArray × JV)) (id : Int), (tM m id).length = m.length
  | [], _ => rfl
  | (a, x) :: r, id => by rw [tM, List.length_cons, tM_len r, List.length_cons]
theorem tL_get {x : JV} : ∀ {l : List JV} {i : Nat} (id : Int), l[i]? = some x → (tL l id)[i]? = some [.pp (tcells x (id + lsize (l.take i)))]
  | [], i, id, h => by simp at h
  | y :: r, 0, id, h => by simp at h; subst h; simp [tL, lsize]
  | y :: r, i + 1, id, h => by
    rw [tL, List.getElem?_cons_succ, tL_get (id + jsize y) (by simpa using h), List.take_succ_cons, lsize]
    rw [show id + jsize y + lsize (r.take i) = id + (jsize y + lsize (r.take i)) by omega]
theorem tM_get {q : ByteArray × JV} : ∀ {m : List (ByteArray × JV)} {i : Nat} (id : Int), m[i]? = some q → (tM m id)[i]? = some [.pp (tcells q.2 (id + msize (m.take i)))]
  | [], i, id, h => by simp at h
  | (a, y) :: r, 0, id, h => by simp at h; subst h; simp [tM, msize]
  | (a, y) :: r, i + 1, id, h => by
    rw [tM, List.getElem?_cons_succ, tM_get (id + jsize y) (by simpa using h), List.take_succ_cons, msize]
    rw [show id + jsize y + msize (r.take i) = id + (jsize y + msize (r.take i)) by omega]
end Lg
namespace Lg
open Go Go.RowKit
variable [GLay]
variable {P : Program} {N : Nat} {e : Env} {σ l : List AO} {Q : QA} {ops : Array Oper} {o : Oper}
theorem AWp_ghostInO {c : Code} (k i sz n : Nat) (hn : l.length = n) {bs : List AV} (hq : l[k]? = some (.box bs)) (hi : bs[i]? = some .nils) (h : AWp P N c e (σ ++ (l ++ [AO.arr sz 0 []]).set k (.box (bs.set i (.arr (σ.length + n) 0 sz 0 0)))) Q) : AWp P N c e (σ ++ l) Q :=
  AWp_ghostIn (σ.length + k) i sz (by rw [get_ownT rfl]; exact hq) hi (by
    have e1 : (σ ++ l).length = σ.length + n := by simp [hn]
    rw [e1, List.append_assoc, set_ownT rfl]; exact h)
theorem AWp_freezeInO {c : Code} (kq i kp gg sz len : Nat) {bs cs : List AV} (hq : l[kq]? = some (.box bs)) (hi : bs[i]? = some (.arr (σ.length + kp) gg sz 0 len)) (hσ : l[kp]? = some (.arr sz gg cs)) (es : List (List AV)) (hes : es.flatten = cs)
    (hel : ∀ r ∈ es, r.length = sz) (hlen : es.length = len) (hsz : sz ≠ 0) (k : AWp P N c e (σ ++ (l.set kp .dead).set kq (.box (bs.set i (.sl false sz es)))) Q) : AWp P N c e (σ ++ l) Q := by
  have hcl : cs.length = len * sz := by rw [← hes, flatten_len hel, hlen]
  refine AWp_freezeIn (σ.length + kq) i (σ.length + kp) gg sz 0 len (by rw [get_ownT rfl]; exact hq) hi (by rw [get_ownT rfl]; exact hσ) es ?_ hel hlen hsz ?_ (by rw [set_ownT rfl, set_ownT rfl]; exact k)
  · rw [Nat.zero_mul, List.drop_zero, ← hcl, List.take_length]; exact hes
  · rw [Nat.zero_add, hcl]; exact Nat.le_refl _
theorem AWp_freezeBoxO {c : Code} (t k : Nat) {cs : List AV} (hl : lookO e.l t = some (.ptr (σ.length + k) 0)) (hk : l[k]? = some (.box cs)) (h : AWp P N c (e.put (some t) (.pp cs)) (σ ++ l.set k .gone) Q) (ht : t < N) : AWp P N c e (σ ++ l) Q :=
  AWp_freeze t (σ.length + k) 0 hl (by rw [get_own]; exact hk) (by rw [set_own]; exact h) ht
/-- Within a region: a slice of an array of the call's own becomes one that is never written again. -/
theorem AOps_freezeAO {D : List (FuncId × List AV)} {el : List (Nat × AV)} {rest : List Oper} (t k gg sz n : Nat) (es : List (List AV)) (hl : lookO el t = some (.arr (σ.length + k) gg sz 0 n)) (hk : l[k]? = some (.arr sz gg es.flatten)) (hel : ∀ r ∈ es, r.length = sz) (hn : es.length = n) (hsz : sz ≠ 0)
    (h : AOps P N ops rest ⟨D, (t, .sl false sz es) :: el⟩ (σ ++ l.set k .dead) Q) (ht : Nat.blt t N = true) : AOps P N ops rest ⟨D, el⟩ (σ ++ l) Q := fun s0 s a hs g x he => by
  have hσ : s.σ[σ.length + k]? = some (.arr sz gg es.flatten) := by rw [hs, get_own]; exact hk
  have hv := he.tmps t
  rw [show (Env.mk D el).look t = .arr (σ.length + k) gg sz 0 n from lookO_eq hl] at hv
  have hfl : es.flatten.length = n * sz := by rw [flatten_len hel, hn]
  obtain ⟨s', e1, e2, g', x', hv'⟩ := freezeArr_V g hσ hv es (by rw [Nat.zero_mul, List.drop_zero, ← hfl, List.take_length]) hel hn hsz (by rw [Nat.zero_add, hfl]; exact Nat.le_refl _)
  have htN : t < N := by simpa using ht
  have := h s0 s' a (by rw [e1, hs, set_own]) g' (x.trans x') (by
    have h1 := (he.mono g x').put (some t) hv' (fun d hd => by cases hd; exact htN)
    rwa [put_self (by rw [he.size]; exact htN)] at h1)
  rwa [e2] at this
/-- A call's end: what it leaves up to m is the caller's. -/
theorem ResQ_K {n0 : Nat} {ts : List Nat} {el : List (Nat × AV)} {v : AV} {R : Out → List AO → Prop} (m : Nat) (hm : n0 ≤ m) (h : resA ts ⟨[], el⟩ = v) (hc : closed m σ) (hv : v.lt m) (hR : R (.ret v) (σ.take m)) : ResQ n0 ts R .ret ⟨[], el⟩ σ :=
  ⟨rfl, m, hm, hc, by rw [h]; exact hv, by rw [h]; exact hR⟩
theorem set1_app {τ : List AO} {p : Nat} (hp : p < τ.length) (x : AO) : (τ ++ l).set p x = τ.set p x ++ l := List.set_append_left _ _ hp
theorem get_app {τ : List AO} {p : Nat} {x : AO} (h : τ[p]? = some x) : (τ ++ l)[p]? = some x := get_old h
theorem iget_app {m : List (Int × AV)} {k : Int} (h : ∀ q ∈ m, ¬ q.1 = k) (r : List (Int × AV)) : (iget (m ++ r) k).map (·.2) = (iget r k).map (·.2) := by
  induction m with
  | nil => rfl
  | cons a m ih =>
    obtain ⟨x, v⟩ := a
    have h1 : ¬ k = x := fun e => h (x, v) (by simp) e.symm
    rw [List.cons_append, iget, if_neg h1]
    have := ih (fun q hq => h q (by simp [hq]))
    rw [← this]
    cases iget (m ++ r) k <;> rfl
theorem iget_last {m : List (Int × AV)} {k : Int} (h : ∀ q ∈ m, ¬ q.1 = k) (v : AV) : (iget (m ++ [(k, v)]) k).map (·.2) = some v := by
  rw [iget_app h]; simp [iget]
theorem imap_lt (n : Nat) (m : List (Int × AV)) (h : ∀ q ∈ m, q.2.lt n) : AV.ltL n (mflat (imap m)) := by
  induction m with
  | nil => trivial
  | cons a r ih =>
    obtain ⟨k, v⟩ := a
    exact ⟨trivial, h (k, v) (by simp), ih (fun q hq => h q (by simp [hq]))⟩
end Lg
namespace Lg
open Go
/-! ### What the law's Seen has seen of a tree -/
mutual
def seenV : JV → Int → List (Int × AV)
  | .mk k b n s l m, id => seenL l (id + 1) ++ seenM m (id + 1 + lsize l) ++ [(id, .agg (vcells (.mk k b n s l m)))]
def seenL : List JV → Int → List (Int × AV)
  | [], _ => []
  | x :: r, id => seenV x id ++ seenL r (id + jsize x)
def seenM : List (ByteArray × JV) → Int → List (Int × AV)
  | [], _ => []
  | (_, x) :: r, id => seenV x id ++ seenM r (id + jsize x)
end
theorem seenV_eq (v : JV) (id : Int) : seenV v id = seenL v.l (id + 1) ++ seenM v.m (id + 1 + lsize v.l) ++ [(id, .agg (vcells v))] := by
  cases v; simp [seenV, JV.l, JV.m]
theorem seenL_snoc (x : JV) : ∀ (l : List JV) (id : Int), seenL (l ++ [x]) id = seenL l id ++ seenV x (id + lsize l)
  | [], id => by simp [seenL, lsize]
  | y :: r, id => by
    rw [List.cons_append, seenL, seenL_snoc x r, seenL, lsize, List.append_assoc]
    rw [show id + jsize y + lsize r = id + (jsize y + lsize r) by omega]
theorem seenM_snoc (q : ByteArray × JV) : ∀ (m : List (ByteArray × JV)) (id : Int), seenM (m ++ [q]) id = seenM m id ++ seenV q.2 (id + msize m)
  | [], id => by obtain ⟨k, x⟩ := q; simp [seenM, msize]
  | (a, y) :: r, id => by
    rw [List.cons_append, seenM, seenM_snoc q r, seenM, msize, List.append_assoc]
    rw [show id + jsize y + msize r = id + (jsize y + msize r) by omega]
mutual
theorem seenV_key : ∀ (v : JV) (id : Int), ∀ q ∈ seenV v id, id ≤ q.1 ∧ q.1 < id + jsize v
  | .mk k b n s l m, id => fun q hq => by
    have hl := lsize_nn l
    have hm := msize_nn m
    rw [seenV] at hq
    rw [jsize]
    rcases List.mem_append.1 hq with hq | hq
    · rcases List.mem_append.1 hq with hq | hq
      · have := seenL_key l _ q hq; omega
      · have := seenM_key m _ q hq; omega
    · rw [List.mem_singleton] at hq; subst hq; simp only; omega
theorem seenL_key : ∀ (l : List JV) (id : Int), ∀ q ∈ seenL l id, id ≤ q.1 ∧ q.1 < id + lsize l
  | [], id => fun q hq => by simp [seenL] at hq
  | x :: r, id => fun q hq => by
    have hr := lsize_nn r
    have hx := jsize_pos x
    rw [seenL] at hq
    rw [lsize]
    rcases List.mem_append.1 hq with hq | hq
    · have := seenV_key x _ q hq; omega
    · have := seenL_key r _ q hq; omega
theorem seenM_key : ∀ (m : List (ByteArray × JV)) (id : Int), ∀ q ∈ seenM m id, id ≤ q.1 ∧ q.1 < id + msize m
  | [], id => fun q hq => by simp [seenM] at hq
  | (a, x) :: r, id => fun q hq => by
    have hr := msize_nn r
    have hx := jsize_pos x
    rw [seenM] at hq
    rw [msize]
    rcases List.mem_append.1 hq with hq | hq
    · have := seenV_key x _ q hq; omega
    · have := seenM_key r _ q hq; omega
end
mutual
theorem seenV_len : ∀ (v : JV) (id : Int), ((seenV v id).length : Int) = jsize v
  | .mk k b n s l m, id => by rw [seenV, jsize, List.length_append, List.length_append]; have := seenL_len l (id + 1); have := seenM_len m (id + 1 + lsize l); simp only [List.length_cons, List.length_nil]; omega
theorem seenL_len : ∀ (l : List JV) (id : Int), ((seenL l id).length : Int) = lsize l
  | [], id => rfl
  | x :: r, id => by rw [seenL, lsize, List.length_append]; have := seenV_len x id; have := seenL_len r (id + jsize x); omega
theorem seenM_len : ∀ (m : List (ByteArray × JV)) (id : Int), ((seenM m id).length : Int) = msize m
  | [], id => rfl
  | (a, x) :: r, id => by rw [seenM, msize, List.length_append]; have := seenV_len x id; have := seenM_len r (id + jsize x); omega
end
section
variable [GLay]
mutual
theorem seenV_lt (n : Nat) : ∀ (v : JV) (id : Int), ∀ q ∈ seenV v id, q.2.lt n
  | .mk k b nn s l m, id => fun q hq => by
    rw [seenV] at hq
    rcases List.mem_append.1 hq with hq | hq
    · rcases List.mem_append.1 hq with hq | hq
      · exact seenL_lt n l _ q hq
      · exact seenM_lt n m _ q hq
    · rw [List.mem_singleton] at hq; subst hq; simp [AV.lt]
theorem seenL_lt (n : Nat) : ∀ (l : List JV) (id : Int), ∀ q ∈ seenL l id, q.2.lt n
  | [], id => fun q hq => by simp [seenL] at hq
  | x :: r, id => fun q hq => by
    rw [seenL] at hq
    rcases List.mem_append.1 hq with hq | hq
    · exact seenV_lt n x _ q hq
    · exact seenL_lt n r _ q hq
theorem seenM_lt (n : Nat) : ∀ (m : List (ByteArray × JV)) (id : Int), ∀ q ∈ seenM m id, q.2.lt n
  | [], id => fun q hq => by simp [seenM] at hq
  | (a, x) :: r, id => fun q hq => by
    rw [seenM] at hq
    rcases List.mem_append.1 hq with hq | hq
    · exact seenV_lt n x _ q hq
    · exact seenM_lt n r _ q hq
end
/-- A tree's value, once it was seen. -/
theorem seen_get {M : List (Int × AV)} {v : JV} {id : Int} (h : ∀ q ∈ M, q.1 < id) : (iget (M ++ seenV v id) id).map (·.2) = some (.agg (vcells v)) := by
  rw [seenV_eq, ← List.append_assoc]
  refine iget_last (fun q hq => ?_) _
  rcases List.mem_append.1 hq with hq | hq
  · have := h q hq; omega
  · rcases List.mem_append.1 hq with hq | hq
    · have := seenL_key v.l _ q hq; omega
    · have := seenM_key v.m _ q hq; have := lsize_nn v.l; omega
theorem seen_below {M : List (Int × AV)} {v : JV} {id : Int} (h : ∀ q ∈ M, q.1 < id) : ∀ q ∈ M ++ seenV v id, q.1 < id + jsize v := fun q hq => by
  have := jsize_pos v
  rcases List.mem_append.1 hq with hq | hq
  · have := h q hq; omega
  · exact (seenV_key v id q hq).2
end
/-- The Ids of a tree. -/
def idrow (id : Int) (n : Nat) : List (List AV) := (List.range n).map fun i => [AV.int .i64 (id + (i : Nat))]
theorem idrow_len (id : Int) (n : Nat) : (idrow id n).length = n := by simp [idrow]
theorem idrow_app (id : Int) (a b : Nat) : idrow id a ++ idrow (id + a) b = idrow id (a + b) := by
  unfold idrow
  rw [List.range_add, List.map_append, List.map_map]
  congr 1
  refine List.map_congr_left fun i _ => ?_
  simp only [Function.comp_apply]
  rw [show id + (a : Int) + (i : Int) = id + ((a + i : Nat) : Int) by omega]
theorem idrow_get {id : Int} {n i : Nat} (h : i < n) : (idrow id n)[i]? = some [.int .i64 (id + (i : Nat))] := by
  simp [idrow, h]
theorem idrow_el (id : Int) (n : Nat) : ∀ r ∈ idrow id n, r.length = 1 := by
  intro r hr; simp [idrow] at hr; obtain ⟨i, _, rfl⟩ := hr; rfl
theorem idrow_flat (id : Int) (n : Nat) : (idrow id n).flatten = (List.range n).map fun i => AV.int .i64 (id + (i : Nat)) := by
  unfold idrow
  induction (List.range n) with
  | nil => rfl
  | cons a r ih => simp [ih]
@[simp] theorem idrow_lt (m : Nat) (id : Int) (n : Nat) : AV.ltLL m (idrow id n) := by
  rw [AV.ltLL_iff]; intro e he; simp [idrow] at he; obtain ⟨i, _, rfl⟩ := he; exact ⟨trivial, trivial⟩
@[simp] theorem idflat_lt (m : Nat) (id : Int) (n : Nat) : AV.ltL m (idrow id n).flatten := by
  rw [idrow_flat, AV.ltL_iff]; intro a ha; simp at ha; obtain ⟨i, _, rfl⟩ := ha; trivial
theorem idones [GLay] (id : Int) (n : Nat) : ones (idrow id n).flatten = true := by
  rw [idrow_flat, ones_iff]; intro a ha; simp at ha; obtain ⟨i, _, rfl⟩ := ha; rfl
mutual
theorem tcells_lt (m : Nat) : ∀ (v : JV) (id : Int), AV.ltL m (tcells v id)
  | .mk k b n s l q, id => by
    rw [tcells, bare8]
    refine ⟨trivial, trivial, trivial, trivial, trivial, trivial, trivial, trivial, trivial, ?_, ?_, trivial⟩
    · show AV.ltLL m (krow q)
      rw [AV.ltLL_iff]; intro e he; simp [krow] at he; obtain ⟨a, b, _, rfl⟩ := he; exact ⟨trivial, trivial⟩
    · show AV.ltLL m (tL l (id + 1) ++ tM q (id + 1 + lsize l))
      rw [AV.ltLL_iff]; intro e he
      rcases List.mem_append.1 he with he | he
      · exact (AV.ltLL_iff _ _).1 (tL_lt m l _) e he
      · exact (AV.ltLL_iff _ _).1 (tM_lt m q _) e he
theorem tL_lt (m : Nat) : ∀ (l : List JV) (id : Int), AV.ltLL m (tL l id)
  | [], id => trivial
  | x :: r, id => by rw [tL]; exact ⟨⟨tcells_lt m x id, trivial⟩, tL_lt m r _⟩
theorem tM_lt (m : Nat) : ∀ (l : List (ByteArray × JV)) (id : Int), AV.ltLL m (tM l id)
  | [], id => trivial
  | (a, x) :: r, id => by rw [tM]; exact ⟨⟨tcells_lt m x id, trivial⟩, tM_lt m r _⟩
end
end Lg
namespace Lg
open Go
/-! ### How deep what is read may be -/
theorem ldep_snoc (l : List JV) (x : JV) : ldep (l ++ [x]) = max (ldep l) (jdepth x) := by
  induction l with
  | nil => simp only [List.nil_append, ldep]
  | cons a r ih => simp only [List.cons_append, ldep, ih]; omega
theorem mdep_ins [GLay] (m : List (ByteArray × JV)) (key : ByteArray) (x : JV) : mdep (rins m key x) = max (mdep m) (jdepth x) := by
  induction m with
  | nil => rw [rins_nil]; simp only [mdep]
  | cons p m ih =>
    obtain ⟨k, v⟩ := p
    rw [rins_cons]
    split
    · simp only [mdep, ih]; omega
    · simp only [mdep]
theorem ldep_mem {l : List JV} {i : Nat} {x : JV} (h : l[i]? = some x) : jdepth x ≤ ldep l := by
  induction l generalizing i with
  | nil => simp at h
  | cons a r ih =>
    cases i with
    | zero => simp at h; subst h; simp only [ldep]; omega
    | succ i => have := ih (i := i) (by simpa using h); simp only [ldep]; omega
theorem mdep_mem {m : List (ByteArray × JV)} {i : Nat} {q : ByteArray × JV} (h : m[i]? = some q) : jdepth q.2 ≤ mdep m := by
  induction m generalizing i with
  | nil => simp at h
  | cons a r ih =>
    obtain ⟨k, y⟩ := a
    cases i with
    | zero => simp at h; subst h; simp only [mdep]; omega
    | succ i => have := ih (i := i) (by simpa using h); simp only [mdep]; omega
/-- The depth of what was read without an error. -/
def DD (r : RS) (x : JV × RS) : Prop := r.deep ≤ 32 → x.2.bad = 0 → jdepth x.1 + r.deep ≤ 32
section
variable [GLay]
variable {rv : RS → JV × RS} {s : ByteArray} (hs : s.size ≤ 100000) (hrv : ∀ r, ROK s r → VR s r (rv r)) (hd : ∀ r, ROK s r → DD r (rv r))
include hrv hd
theorem rarrF_dep : ∀ (k : Nat) (l : List JV) (r : RS), ROK s r → r.deep ≤ 32 → (r.bad = 0 → ldep l + r.deep ≤ 32) → (rarrF rv s k l r).2.bad = 0 → ldep (rarrF rv s k l r).1 + r.deep ≤ 32 := by
  intro k
  induction k with
  | zero => intro l r h h1 h2 h3; exact h2 h3
  | succ k ih =>
    intro l r h h1 h2 h3
    rw [rarrF] at h3 ⊢
    have hv := hrv r h
    split at h3
    · rename_i hc
      rw [if_pos hc]
      split at h3
      · rename_i hp
        rw [if_pos hp]
        have hi := rinc_to hv.fwd.ok (by omega)
        have e : (rinc (rv r).2).deep = r.deep := hv.deep
        have := ih (l ++ [(rv r).1]) (rinc (rv r).2) hi.ok (by omega) (fun e2 => by
          rw [ldep_snoc]
          have := hd r h h1 e2
          have := h2 (hv.fwd.b e2)
          omega) h3
        omega
      · rename_i hp
        rw [if_neg hp, ldep_snoc]
        have := hd r h h1 h3
        have := h2 (hv.fwd.b h3)
        omega
    · rename_i hc
      rw [if_neg hc]; exact h2 h3
omit hd in
theorem ropen_dep {r : RS} (hb : r.bad = 0) (h : (ropen s r).bad = 0) (h1 : r.deep ≤ 32) : r.deep + 1 ≤ 32 := by
  by_cases e : r.deep = 32
  · simp [ropen, e, hb] at h
  · omega
include hs
theorem rarr_dep {r : RS} (h : ROK s r) (hb : r.bad = 0) (ha : r.a < s.size) : DD r (rarr rv s r) := fun h1 h2 => by
  obtain ⟨o1, o2, o3⟩ := ropen_to h hb ha
  obtain ⟨q1, q2, q3, q4, q5⟩ := rarrF_ok hrv (s.size + 2) [] (ropen s r) o1.ok trivial (fun _ => trivial)
  obtain ⟨w1, w2⟩ := rwant_to (lit := rb1) q1.ok
  have h3 : (rarrF rv s (s.size + 2) [] (ropen s r)).2.bad = 0 := w1.b h2
  have h4 := ropen_dep hrv hb (q1.b h3) h1
  have h5 := rarrF_dep hrv hd (s.size + 2) [] (ropen s r) o1.ok (by omega) (fun _ => by simp only [ldep]; omega) h3
  unfold rarr
  show jdepth (.mk 4 false {} e0 _ []) + _ ≤ _
  rw [jdepth, if_pos (.inl rfl), mdep]
  have := ldep_nn (rarrF rv s (s.size + 2) [] (ropen s r)).1
  omega
theorem robjF_dep : ∀ (k : Nat) (m : List (ByteArray × JV)) (r : RS), ROK s r → r.deep ≤ 32 → (r.bad = 0 → mdep m + r.deep ≤ 32) → (robjF rv s k m r).2.bad = 0 → mdep (robjF rv s k m r).1 + r.deep ≤ 32 := by
  intro k
  induction k with
  | zero => intro m r h h1 h2 h3; exact h2 h3
  | succ k ih =>
    intro m r h h1 h2 h3
    rw [robjF] at h3 ⊢
    obtain ⟨k1, k2, k3, k4, k5⟩ := rkey_ok hrv (m := m) h
    have hv := hrv _ k1.ok
    split at h3
    · rename_i hc
      rw [if_pos hc]
      split at h3
      · rename_i hp
        rw [if_pos hp]
        have hi := rinc_to hv.fwd.ok (by omega)
        have e : (rinc (rv (rkey s m r).2).2).deep = r.deep := hv.deep.trans k2
        have := ih (rins m (rkey s m r).1 (rv (rkey s m r).2).1) (rinc (rv (rkey s m r).2).2) hi.ok (by omega) (fun e2 => by
          rw [mdep_ins]
          have := hd _ k1.ok (by omega) e2
          have := h2 (k1.b (hv.fwd.b e2))
          omega) h3
        omega
      · rename_i hp
        rw [if_neg hp, mdep_ins]
        have := hd _ k1.ok (by omega) h3
        have := h2 (k1.b (hv.fwd.b h3))
        omega
    · rename_i hc
      rw [if_neg hc]; exact h2 h3
theorem robj_dep {r : RS} (h : ROK s r) (hb : r.bad = 0) (ha : r.a < s.size) : DD r (robj rv s r) := fun h1 h2 => by
  obtain ⟨o1, o2, o3⟩ := ropen_to h hb ha
  obtain ⟨q1, q2, q3, q4, q5⟩ := robjF_ok hs hrv (s.size + 2) [] (ropen s r) o1.ok trivial (fun _ => ⟨fun q hq => by simp at hq, List.Pairwise.nil⟩)
  obtain ⟨w1, w2⟩ := rwant_to (lit := rb2) q1.ok
  have h3 : (robjF rv s (s.size + 2) [] (ropen s r)).2.bad = 0 := w1.b h2
  have h4 := ropen_dep hrv hb (q1.b h3) h1
  have h5 := robjF_dep hs hrv hd (s.size + 2) [] (ropen s r) o1.ok (by omega) (fun _ => by simp only [mdep]; omega) h3
  unfold robj
  show jdepth (.mk 5 false {} e0 [] _) + _ ≤ _
  rw [jdepth, if_pos (.inr rfl), ldep]
  have := mdep_nn (robjF rv s (s.size + 2) [] (ropen s r)).1
  omega
theorem rone_dep {r : RS} (h : ROK s r) : DD r (rone rv s r) := by
  have hz : ∀ {k : Int} {b : Bool} {n : JNum} {t : ByteArray} {r' : RS}, ¬ (k = 4 ∨ k = 5) → DD r (.mk k b n t [] [], r') := fun {k b n t r'} hk h1 _ => by
    show jdepth (.mk k b n t [] []) + _ ≤ _
    rw [jdepth, if_neg hk]; omega
  unfold rone
  split
  · rename_i hp; have := pk_yes (s := s) (a := r.a) (bad := r.bad) (by omega); exact robj_dep hs hrv hd h this.1 this.2.1
  split
  · rename_i hp; have := pk_yes (s := s) (a := r.a) (bad := r.bad) (by omega); exact rarr_dep hs hrv hd h this.1 this.2.1
  split
  · exact hz (by decide)
  split
  · exact hz (by decide)
  split
  · exact hz (by decide)
  split
  · exact hz (by decide)
  split
  · exact hz (by decide)
  · exact hz (by decide)
end
section
variable [GLay]
theorem rval_dep {s : ByteArray} (hs : s.size ≤ 100000) : ∀ (n : Nat) (r : RS), ROK s r → DD r (rval n s r) := by
  intro n
  induction n with
  | zero => intro r h h1 h2; show jdepth (.mk 0 false {} ⟨#[]⟩ [] []) + _ ≤ _; rw [jdepth, if_neg (by decide)]; omega
  | succ n ih =>
    intro r h h1 h2
    have b1 := rblank_to h
    have hv := rone_ok hs (rval_ok hs n) b1.ok
    have b2 := rblank_to hv.fwd.ok
    rw [rval] at h2 ⊢
    exact rone_dep hs (rval_ok hs n) ih b1.ok h1 (b2.b h2)
theorem rParse_dep (s : ByteArray) (h : (rParse s).2.1 = 0) : jdepth (rParse s).1 ≤ 32 := by
  unfold rParse at h ⊢
  split at h
  · cases h
  · rename_i hs
    split at h
    · rename_i hb
      rw [if_neg hs, if_pos hb]
      have h0 : ROK s ⟨0, 0, 0, 0⟩ := ⟨Nat.zero_le _, fun _ => Nat.zero_le _, Int.le_refl _, Int.le_refl _⟩
      have hb2 : (rpar s).2.bad = 0 := by
        unfold rparE at hb
        split at hb
        · exact absurd hb (rfail_bad (by decide))
        · exact hb
      have := rval_dep (by omega) (s.size + 2) ⟨0, 0, 0, 0⟩ h0 (by decide) hb2
      have e : (rval (s.size + 2) s ⟨0, 0, 0, 0⟩) = rpar s := rfl
      rw [e] at this; dsimp only at this ⊢; omega
    · rename_i hb; exact absurd h hb
theorem rValue_dep (s : ByteArray) (h : (rValue s).2 ≠ 0) : jdepth (rValue s).1 ≤ 32 := by
  unfold rValue at h ⊢
  split
  · rename_i h1; rw [if_pos h1] at h; exact absurd rfl h
  rename_i h1
  rw [if_neg h1] at h
  split
  · rename_i h2; exact rParse_dep s h2
  · rename_i h2; rw [if_neg h2] at h; exact absurd rfl h
end
/-! ### A node's kids -/
def jkids (v : JV) : List JV := v.l ++ v.m.map (·.2)
theorem tLM (m : List (ByteArray × JV)) : ∀ (l : List JV) (id : Int), tL l id ++ tM m (id + lsize l) = tL (l ++ m.map (·.2)) id
  | [], id => by
    simp only [tL, lsize, List.nil_append, Int.add_zero]
    induction m generalizing id with
    | nil => rfl
    | cons q r ih => obtain ⟨k, x⟩ := q; simp only [tM, List.map_cons, tL, ih]
  | y :: r, id => by
    simp only [List.cons_append, tL]
    rw [← tLM m r (id + jsize y), lsize, show id + (jsize y + lsize r) = id + jsize y + lsize r by omega]
theorem tcells_k (v : JV) (id : Int) : tcells v id = .int .i64 id :: (bare8 v.kind v.b v.n v.s ++ [.sl false 1 (krow v.m), .sl false 1 (tL (jkids v) (id + 1))]) := by
  rw [tcells_eq, tLM]; rfl
theorem tcells_x (v : JV) (id : Int) : tcells v id = [.int .i64 id, .int .i64 v.kind, .bool v.b, .bool v.n.neg, .str v.n.digits, .int .i64 v.n.exp, .str v.s, .nils, .nils, .sl false 1 (krow v.m), .sl false 1 (tL (jkids v) (id + 1))] := tcells_k v id
theorem lsize_kids (m : List (ByteArray × JV)) : ∀ l : List JV, lsize (l ++ m.map (·.2)) = lsize l + msize m
  | [] => by
    simp only [List.nil_append, lsize, Int.zero_add]
    induction m with
    | nil => rfl
    | cons q r ih => obtain ⟨k, x⟩ := q; simp only [List.map_cons, lsize, msize, ih]
  | y :: r => by simp only [List.cons_append, lsize, lsize_kids m r]; omega
theorem jsize_kids (v : JV) : jsize v = 1 + lsize (jkids v) := by rw [jsize_eq, jkids, lsize_kids]; omega
theorem tLf_len (l : List JV) (id : Int) : (tL l id).flatten.length = l.length := by
  induction l generalizing id with
  | nil => rfl
  | cons a r ih => simp only [tL, List.flatten_cons, List.length_append, ih, List.length_cons, List.length_nil]; omega
theorem tMf_len (m : List (ByteArray × JV)) (id : Int) : (tM m id).flatten.length = m.length := by
  induction m generalizing id with
  | nil => rfl
  | cons a r ih => obtain ⟨k, x⟩ := a; simp only [tM, List.flatten_cons, List.length_append, ih, List.length_cons, List.length_nil]; omega
theorem tL_el (l : List JV) (id : Int) : ∀ r ∈ tL l id, r.length = 1 := by
  induction l generalizing id with
  | nil => intro r hr; simp [tL] at hr
  | cons a r ih =>
    intro x hx
    rw [tL] at hx
    rcases List.mem_cons.1 hx with rfl | h
    · rfl
    · exact ih _ x h
theorem tM_el (m : List (ByteArray × JV)) (id : Int) : ∀ r ∈ tM m id, r.length = 1 := by
  induction m generalizing id with
  | nil => intro r hr; simp [tM] at hr
  | cons a r ih =>
    obtain ⟨k, y⟩ := a
    intro x hx
    rw [tM] at hx
    rcases List.mem_cons.1 hx with rfl | h
    · rfl
    · exact ih _ x h
theorem krow_len (m : List (ByteArray × JV)) : (krow m).length = m.length := by simp [krow]
theorem krow_get {m : List (ByteArray × JV)} {i : Nat} {q : ByteArray × JV} (h : m[i]? = some q) : (krow m)[i]? = some [.str q.1] := by simp [krow, h]
theorem krow_el (m : List (ByteArray × JV)) : ∀ r ∈ krow m, r.length = 1 := by intro r hr; simp [krow] at hr; obtain ⟨_, _, _, rfl⟩ := hr; rfl
theorem krow_snoc (m : List (ByteArray × JV)) (q : ByteArray × JV) : (krow (m ++ [q])).flatten = (krow m).flatten ++ [.str q.1] := by simp [krow]
theorem kflat_len (m : List (ByteArray × JV)) : (krow m).flatten.length = m.length := by
  induction m with
  | nil => rfl
  | cons a r ih =>
    have : krow (a :: r) = [.str a.1] :: krow r := rfl
    rw [this]; simp only [List.flatten_cons, List.length_append, ih, List.length_cons, List.length_nil]; omega
@[simp] theorem krow_lt (n : Nat) (m : List (ByteArray × JV)) : AV.ltLL n (krow m) := by
  rw [AV.ltLL_iff]; intro e he; simp [krow] at he; obtain ⟨a, b, _, rfl⟩ := he; exact ⟨trivial, trivial⟩
theorem flat_lt {n : Nat} {es : List (List AV)} (h : AV.ltLL n es) : AV.ltL n es.flatten := by
  rw [AV.ltL_iff]; intro a ha
  obtain ⟨e, he, h2⟩ := List.mem_flatten.1 ha
  exact (AV.ltL_iff _ _).1 ((AV.ltLL_iff _ _).1 h e he) a h2
theorem flat_snoc {α : Type} (a b : List (List α)) (c : List α) : (a ++ (b ++ [c])).flatten = (a ++ b).flatten ++ c := by simp
theorem ltLL_app (n : Nat) (a b : List (List AV)) : AV.ltLL n (a ++ b) ↔ AV.ltLL n a ∧ AV.ltLL n b := by
  induction a with
  | nil => simp [AV.ltLL]
  | cons x a ih => simp only [List.cons_append, AV.ltLL, ih, and_assoc]
attribute [simp] tcells_lt tL_lt tM_lt
section
variable [GLay]
theorem may_nol {v : JV} (h : jmay v) (hk : ¬ v.kind = 4) : v.l = [] := by
  have hb := ((jmay_eq v).1 h).1.2.2.1
  unfold jbare at hb
  simp only [hk, Bool.and_eq_true, Bool.or_eq_true, decide_eq_true_eq, or_false] at hb
  exact List.length_eq_zero_iff.1 hb.2.1
theorem may_nom {v : JV} (h : jmay v) (hk : ¬ v.kind = 5) : v.m = [] := by
  have hb := ((jmay_eq v).1 h).1.2.2.1
  unfold jbare at hb
  simp only [hk, Bool.and_eq_true, Bool.or_eq_true, decide_eq_true_eq, or_false] at hb
  exact List.length_eq_zero_iff.1 hb.2.2
theorem may_get {v : JV} (h : jmay v) {i : Nat} {x : JV} (hx : v.l[i]? = some x) : jmay x := ((jmay_eq v).1 h).2.2 i x hx
theorem may_mget {v : JV} (h : jmay v) {i : Nat} {q : ByteArray × JV} (hq : v.m[i]? = some q) : jmay q.2 :=
  (((jmay_eq v).1 h).2.1 i q (List.getElem?_eq_some_iff.1 hq).1 hq).2
end
end Lg
namespace Lg
open Go Go.RowKit
variable [GLay]
variable {P : Program} {N : Nat} {e : Env} {σ l : List AO} {Q : QA} {o : Oper}
/-! ### Slices whose capacity is known -/
theorem AVle.capA (p g sz off len cap : Nat) : AVle (.arrC p g sz off len cap) (.arr p g sz off len) := fun s v h => by
  cases h with
  | arrC _ _ _ _ _ _ _ h1 h =>
    refine .arr p g sz off len v h1 ?_
    unfold ArrAt at h ⊢
    cases hσ : s.σ[p]? with
    | none => rw [hσ] at h; exact h.elim
    | some x =>
      rw [hσ] at h
      cases x with
      | arr sz' g0 cs => exact ⟨h.1, fun e => ⟨(h.2 e).1, .inr ⟨cap, (h.2 e).2⟩⟩⟩
      | dead => trivial
      | _ => exact h.elim
theorem PW.anys {s : CS} (vs : List Value) : PW s (List.replicate vs.length .any) vs :=
  ⟨by simp, fun i c v h1 h2 => by
    rw [List.getElem?_replicate] at h1
    split at h1
    · cases h1; exact .any v
    · cases h1⟩
theorem PW.anysN {s : CS} {n : Nat} {vs : List Value} (h : vs.length = n) : PW s (List.replicate n .any) vs := h ▸ PW.anys vs
/-- New cells in a row's middle. -/
theorem splice_list {α : Type} {vs news : List α} {base i L : Nat} (h1 : i + news.length ≤ L) (h2 : base + L ≤ vs.length) :
    ((vs.take (base + i) ++ news ++ vs.drop (base + i + news.length)).drop base).take L = (((vs.drop base).take L).take i ++ news ++ ((vs.drop base).take L).drop (i + news.length)) := by
  apply List.ext_getElem?
  intro j
  simp only [List.getElem?_take, List.getElem?_drop, List.getElem?_append, List.length_append, List.length_take, List.length_drop]
  by_cases c0 : j < L
  · simp only [c0, if_true]
    by_cases c1 : j < i
    · simp only [show base + j < min (base + i) vs.length + news.length by omega, show base + j < min (base + i) vs.length by omega, show base + j < base + i by omega, show j < min i (min L (vs.length - base)) + news.length by omega,
        show j < min i (min L (vs.length - base)) by omega, c1, if_true]
    · by_cases c2 : j < i + news.length
      · simp only [show base + j < min (base + i) vs.length + news.length by omega, show ¬ base + j < min (base + i) vs.length by omega, show j < min i (min L (vs.length - base)) + news.length by omega,
          show ¬ j < min i (min L (vs.length - base)) by omega, if_true, if_false]
        congr 1; omega
      · simp only [show ¬ base + j < min (base + i) vs.length + news.length by omega, show ¬ j < min i (min L (vs.length - base)) + news.length by omega, if_false]
        rw [if_pos (by omega)]
        congr 1; omega
  · simp only [c0, if_false]
    rw [if_neg (by omega), if_neg (by omega)]
theorem PW.splice {s : CS} {cs ds : List AV} {us ws : List Value} (h : PW s cs us) (k : PW s ds ws) (i : Nat) : PW s (cs.take i ++ ds ++ cs.drop (i + ds.length)) (us.take i ++ ws ++ us.drop (i + ws.length)) := by
  rw [k.1]
  exact ((h.take i).append k).append (h.drop _)
/-- A slice of the call's own of all of an array: its capacity is now known, and all its room. -/
theorem AWp_reveal {c : Code} (t p g sz n : Nat) {cs : List AV} (hl : lookO e.l t = some (.arr p g sz 0 n)) (hσ : σ[p]? = some (.arr sz g cs)) (hcs : cs.length = n * sz) (hn : n ≠ 0) (hsz : sz ≠ 0) (ht : t < N)
    (k : ∀ cap, n ≤ cap → AWp P N c (e.put (some t) (.arrC p (g + 1) sz 0 n cap)) (σ.set p (.arr sz (g + 1) (cs ++ List.replicate ((cap - n) * sz) .any))) Q) : AWp P N c e σ Q := fun s0 s a hs gd x he => by
  subst hs
  have hplt : p < s.σ.length := (List.getElem?_eq_some_iff.1 hσ).1
  have hv := he.tmps t
  rw [show e.look t = .arr p g sz 0 n from lookO_eq hl] at hv
  obtain ⟨_, ⟨A, hA, h0⟩ | ⟨cap, hA, hlc, hfit⟩⟩ := hv.inv_arr hσ
  · exact absurd h0 hn
  · rw [Nat.zero_add] at hfit
    have hlive : s.live p := by
      unfold CS.live; rw [hσ]
      show (s.μ p).tot ≠ 0
      have : 0 < cap * sz := Nat.mul_pos (by omega) (Nat.pos_of_ne_zero hsz)
      omega
    obtain ⟨_, vs, T, hb, ht0, h7, h8, hpv⟩ := gd.rep hσ hlive
    have hcn : n * sz + (cap - n) * sz = cap * sz := by rw [← Nat.add_mul]; congr 1; omega
    obtain ⟨s', e1, e2, g', x', hμ⟩ := gd.renew hσ (g' := g + 1) (by omega) (cs' := cs ++ List.replicate ((cap - n) * sz) .any) (s.μ p) (w' := s.w) (Nat.le_refl _) rfl rfl rfl (fun b _ _ => rfl)
      (.inr ⟨.inl ⟨rfl, hlive⟩, vs, T, hb, ht0, h7, by rw [List.length_append, List.length_replicate, hcs]; omega, by
        have h9 := hpv.append (PW.anysN (s := s) (n := (cap - n) * sz) (vs := ((vs.drop (s.μ p).base).drop cs.length).take ((cap - n) * sz)) (by simp; omega))
        rw [List.length_append, List.length_replicate, List.take_add]
        exact h9⟩)
    have hv' : V s' (.arrC p (g + 1) sz 0 n cap) (a.eval (.tmp t)) := by
      rw [hA]
      refine .arrC _ _ _ _ _ _ _ rfl (.mk (cs := cs ++ List.replicate ((cap - n) * sz) .any) (by rw [e1]; simp [hplt]) ⟨rfl, by rw [hμ], hlc, by rw [hμ, Nat.zero_add]; exact hfit⟩)
    have := k cap hlc s0 s' a e1 g' (x.trans x') (by
      have h1 := (he.mono gd x').put (some t) hv' (fun d hd => by cases hd; exact ht)
      rwa [put_self (by rw [he.size]; exact ht)] at h1)
    rwa [e2] at this
theorem op_capC {T E : TypeId} {x : Operand} {p g sz off len cap : Nat} {cs : List AV} {c : Array TypeId} (ho : o.op = .call { callee := .builtin .cap, args := #[x], argTypes := c }) (hc : c[0]? = some T) (hu : P.underlying T = some (.slice E))
    (hx : opO e x = some (.arrC p g sz off len cap)) (hσ : σ[p]? = some (.arr sz g cs)) : AOp P σ e o (.int .i64 cap) σ :=
  .of_run fun s a hs _ hv => by
    subst hs
    have h1 := (opO_eq hx ▸ hv x (by simp [ho, Op.operands, Call.operands])).inv_arrC hσ
    refine ⟨.int .i64 cap, ?_, .int _ _⟩
    simp [execOp, ho, resolve, invoke, builtin, h1.2.1, Builtin.cap_, hc, run_underlying hu, goInt]
/-- 's[l:h]' of a slice whose capacity is known. -/
theorem op_sliceC {T E : TypeId} {x : Operand} {lo hi : Option Operand} {sz p g off len cap : Nat} {cs : List AV} (l h : Int) (ho : o.op = .slice T x lo hi none) (hu : P.underlying T = some (.slice E))
    (hsz : ∀ w, (Go.sizeOf E).run P w = Result.ok sz w) (hx : opO e x = some (.arrC p g sz off len cap)) (hσ : σ[p]? = some (.arr sz g cs))
    (hl : bnd e 0 l lo) (hh : bnd e (len : Nat) h hi) (h0 : 0 ≤ l) (h1 : l ≤ h) (h2 : h ≤ cap) (h3 : l < cap) :
    AOp P σ e o (.arrC p g sz (off + l.toNat) (h.toNat - l.toNat) (cap - l.toNat)) σ :=
  .of_run fun s a hs _ hv => by
    subst hs
    have hxv := (opO_eq hx ▸ hv x (by simp [ho, Op.operands])).inv_arrC hσ
    have hl' := hl.ev (s := s) (a := a) (fun y hy => hv y (by subst hy; simp [ho, Op.operands]))
    have hh' := hh.ev (s := s) (a := a) (fun y hy => hv y (by subst hy; simp [ho, Op.operands]))
    obtain ⟨_, h5, h6, h7⟩ := hxv
    refine ⟨_, by simp only [execOp, ho, h5, Sem.run_bind, Option.map_none]; rw [run_slice_slice (cap := cap) hu hsz hl' hh' h0 h1 h2]; rfl, ?_⟩
    rw [if_neg (by omega)]
    refine .arrC p g sz _ _ _ _ rfl ?_
    unfold ArrAt; rw [hσ]
    refine ⟨Nat.le_refl _, fun _ => ⟨rfl, ?_, by omega, ?_⟩⟩
    · simp only [Option.map_some, add_none]; rw [Nat.add_mul, Nat.add_assoc]
    · rw [show off + l.toNat + (cap - l.toNat) = off + cap by omega]; exact h7
theorem run_copy {w : World} {t u ty E : TypeId} {sz m n dLen cap b off : Nat} {x : Value} {news cur : List Value} {T : TypeId} (ht : P.underlying t = some (.slice E)) (hsz : ∀ w, (Go.sizeOf E).run P w = Result.ok sz w) (hm : (Builtin.lenOf x).run P w = .ok m w) (hn : min m dLen = n)
    (hf : (Builtin.firstCells sz n x).run P w = .ok news.toArray w) (hb : w.heap[b]? = some (.cells cur.toArray T (0, 0))) (hfit : off + news.length ≤ cur.length) (h1 : ∀ v ∈ news, v.oneCell' = true) :
    (Builtin.copy_ #[t, u] ty #[.slice (some ⟨b, off, none⟩) dLen cap, x]).run P w = .ok (.int .i64 n) (w.setRow b (cur.take off ++ news ++ cur.drop (off + news.length)).toArray) := by
  have hst := run_storeCells_at P b off T news 0 cur.toArray w hb (by simpa using hfit) h1
  simp only [Nat.add_zero] at hst
  subst hn
  have e : Nat.min m dLen = min m dLen := rfl
  simp [Builtin.copy_, run_underlying ht, hsz, hm, e, hf, goInt, hst]
/-- What copy reads: n elements. -/
def SrcN (P : Program) (σ : List AO) (y : AV) (sz m n : Nat) (ds : List AV) : Prop :=
  ∀ (s : CS) (c : Value), s.σ = σ → Good s → V s y c → ∃ vs : List Value, PW s ds vs ∧ (Builtin.lenOf c).run P s.w = .ok m s.w ∧ (Builtin.firstCells sz n c).run P s.w = .ok vs.toArray s.w
theorem src_all {y : AV} {sz m : Nat} {ds : List AV} (h : srcv σ y = some (ds, m)) (hz : szv y sz) : SrcN P σ y sz m m ds := fun s c hs g hv => by
  subst hs
  obtain ⟨vs, h1, h2, h3⟩ := hv.src g h hz
  exact ⟨vs, h1, h2, h3 s.w rfl⟩
theorem src_arr {p g sz off len n : Nat} {cs : List AV} (hσ : σ[p]? = some (.arr sz g cs)) (hn : n ≤ len) (hfit : (off + len) * sz ≤ cs.length) : SrcN P σ (.arr p g sz off len) sz len n ((cs.drop (off * sz)).take (n * sz)) := fun s c hs gd hv => by
  subst hs
  have hfl : off * sz + len * sz ≤ cs.length := by rw [← Nat.add_mul]; exact hfit
  have hnl : n * sz ≤ len * sz := Nat.mul_le_mul_right _ hn
  have tk_some : ∀ (k : Nat) (ds : List AV), k ≤ ds.length → tk k ds = some (ds.take k) := by
    intro k
    induction k with
    | zero => intro ds _; simp [tk]
    | succ k ih =>
      intro ds h
      cases ds with
      | nil => simp at h
      | cons d ds => simp only [tk, ih ds (by simpa using h), Option.map_some, List.take_succ_cons]
  have hs1 : srcv s.σ (.arr p g sz off len) = some ((cs.drop (off * sz)).take (len * sz), len) := by
    simp only [srcv, hσ, if_true, tk_some _ _ (show len * sz ≤ (cs.drop (off * sz)).length by rw [List.length_drop]; omega), Option.map_some]
  have hs2 : srcv s.σ (.arr p g sz off n) = some ((cs.drop (off * sz)).take (n * sz), n) := by
    simp only [srcv, hσ, if_true, tk_some _ _ (show n * sz ≤ (cs.drop (off * sz)).length by rw [List.length_drop]; omega), Option.map_some]
  obtain ⟨vs1, _, hl1, _⟩ := V.src (P := P) gd hv hs1 (show szv _ sz from rfl)
  obtain ⟨_, ⟨A, hA, h0⟩ | ⟨cap, hA, hlc, hft⟩⟩ := hv.inv_arr hσ
  · subst h0
    have : n = 0 := by omega
    subst this
    obtain ⟨vs, h1, _, h3⟩ := V.src (P := P) gd hv hs1 (show szv _ sz from rfl)
    exact ⟨vs, h1, hl1, h3 s.w rfl⟩
  · have hv2 : V s (.arr p g sz off n) (.slice (some ⟨(s.μ p).b, (s.μ p).base + off * sz, none⟩) n cap) := by
      refine .arr _ _ _ _ _ _ rfl ?_
      unfold ArrAt; rw [hσ]
      exact ⟨Nat.le_refl _, fun _ => ⟨rfl, .inr ⟨cap, rfl, by omega, hft⟩⟩⟩
    obtain ⟨vs, h1, _, h3⟩ := V.src (P := P) gd hv2 hs2 (show szv _ sz from rfl)
    refine ⟨vs, h1, hl1, ?_⟩
    have h4 := h3 s.w rfl
    rw [hA]
    have e : ∀ q : Nat, Builtin.firstCells sz n (.slice (some ⟨(s.μ p).b, (s.μ p).base + off * sz, none⟩) q cap) = Builtin.firstCells sz n (.slice (some ⟨(s.μ p).b, (s.μ p).base + off * sz, none⟩) n cap) := fun q => rfl
    rw [e]; exact h4
/-- copy into an array of the call's own. -/
theorem op_copyN {x y : Operand} {t u E : TypeId} {sz m n p g off len : Nat} {cs ds : List AV} {yv : AV} (ho : o.op = .call { callee := .builtin .copy, args := #[x, y], argTypes := #[t, u] }) (ht : P.underlying t = some (.slice E)) (hsz : ∀ w, (Go.sizeOf E).run P w = Result.ok sz w)
    (hx : opO e x = some (.arr p g sz off len)) (hσ : σ[p]? = some (.arr sz g cs)) (hlen : 0 < len) (hsz0 : sz ≠ 0) (hfit : (off + len) * sz ≤ cs.length) (hy : opO e y = some yv) (hsrc : SrcN P σ yv sz m n ds) (hn : min m len = n) (hds : ds.length = n * sz) (h1 : ∀ a ∈ ds, a.one = true ∨ a = .any)
    (hone : ∀ (s : CS) vs, PW s ds vs → Good s → s.σ = σ → (∃ c, V s yv c ∧ (Builtin.firstCells sz n c).run P s.w = .ok (List.toArray vs) s.w) → ∀ v ∈ vs, v.oneCell' = true) :
    AOp P σ e o (.int .i64 n) (σ.set p (.arr sz g (cs.take (off * sz) ++ ds ++ cs.drop (off * sz + ds.length)))) := by
  intro s a hs gd hv K Q hk _
  subst hs
  have hxv := (opO_eq hx ▸ hv x (by simp [ho, Op.operands, Call.operands])).inv_arr hσ
  have hyv := opO_eq hy ▸ hv y (by simp [ho, Op.operands, Call.operands])
  obtain ⟨_, ⟨A, hA, h0⟩ | ⟨cap, hA, hlc, hft⟩⟩ := hxv
  · omega
  · have hlive : s.live p := by
      unfold CS.live; rw [hσ]
      show (s.μ p).tot ≠ 0
      have : 0 < (off + cap) * sz := Nat.mul_pos (by omega) (Nat.pos_of_ne_zero hsz0)
      omega
    obtain ⟨_, vs, T, hb, ht0, h7, h8, hpv⟩ := gd.rep hσ hlive
    obtain ⟨ws, hp, hl, hf⟩ := hsrc s _ rfl gd hyv
    have hwl : ws.length = ds.length := hp.1
    have hnl : n * sz ≤ len * sz := Nat.mul_le_mul_right _ (by omega)
    have hfl : off * sz + len * sz ≤ cs.length := by rw [← Nat.add_mul]; exact hfit
    have hrun := run_copy (ty := o.type) (u := u) (dLen := len) (cap := cap) (b := (s.μ p).b) (off := (s.μ p).base + off * sz) (x := a.eval y) (news := ws) (cur := vs) (T := T) ht hsz hl hn hf hb (by omega) (hone s ws hp gd rfl ⟨_, hyv, hf⟩)
    have hsp := splice_list (vs := vs) (news := ws) (base := (s.μ p).base) (i := off * sz) (L := cs.length) (by omega) (by omega)
    have hps := hpv.splice hp (off * sz)
    have hcl : (cs.take (off * sz) ++ ds ++ cs.drop (off * sz + ds.length)).length = cs.length := by
      simp only [List.length_append, List.length_take, List.length_drop]; omega
    obtain ⟨s', e1, e2, g', x', hμ, hok⟩ := gd.setObj hσ hlive (o' := .arr sz g (cs.take (off * sz) ++ ds ++ cs.drop (off * sz + ds.length))) (.arr _ _ _ _ _ (Nat.le_refl _) fun _ => hcl.symm) rfl
      (vs := vs.take ((s.μ p).base + off * sz) ++ ws ++ vs.drop ((s.μ p).base + off * sz + ws.length)) ⟨ht0, by simp only [List.length_append, List.length_take, List.length_drop]; omega, by rw [hcl]; exact h8, by rw [hcl, hsp]; exact hps⟩
    refine wp_value (w' := s'.w) (cv := .int .i64 n) ?_ (hk _ _ s' ⟨rfl, e1⟩ g' x' (.int _ _))
    rw [e2]
    simp only [execOp, ho, resolve, invoke, builtin, Sem.run_bind, Sem.run_pure, Result.andThen_ok, List.map_toArray, List.map_cons, List.map_nil, hA]
    rw [hrun]; rfl
end Lg
