/- A part of the proof of For every input the law doubletlaw07.EditBack returns true: what was added, or replaced, is there; what was added and was not there, removed again, leaves all as it was; what was removed, added again, too; the value stays as it is; the input reads as it did.: Ln8 Lq1 Lk1 Lk2 Lk3 Lp4 Lp5 Lp6 Lp7 Lk4 Lk5 Lg44 Lk6 Lk7 Lr3 Lr4 Lr5 Lg45 Lg46 Lo1 Lr6 Lk9 Lt1 Lt2 Lt3 Lo2 Lo3 Ln9 Ln10 Ln11 Ln12 Le1 M1 Lr7 Sh6. -/
import Derived.Test.YtdacoelmmaiffaaGreatDoorQ4
import Derived.Test.YtdacoelmmaiffaaGreatDoorQ3
import Derived.Test.YtdacoelmmaiffaaGreatDoorQ2
import Derived.MapKept
import Derived.Lib.Atoi
import Derived.Lib.SlTrimSet
import Derived.Shelf.Strings.SlTrimAscii
import Derived.Shelf.Strconv.Atoi
import Derived.Test.YtdacoelmmaiffaaGreatDoorProg
set_option linter.unusedVariables false
set_option linter.unusedSimpArgs false
set_option linter.unusedSectionVars false
namespace Lg
open Go
theorem hdC_cons (c b : UInt8) (q : BL) : hdC c (b :: q) = decide (b.toNat = c.toNat) := rfl
theorem strip_ne_iff (c : UInt8) (l : BL) : (strip c.toNat l ≠ l) ↔ hdC c l = true := by
  cases l with
  | nil => simp [strip, hdC]
  | cons b r =>
    by_cases h : b.toNat = c.toNat
    · rw [strip_eq h]; simp only [hdC, h, decide_true, iff_true]
      intro e; have := congrArg List.length e; simp at this
    · rw [strip_ne h]; simp [hdC, h]
theorem pExp2 (b : UInt8) (q : BL) : (pExp (b :: q)).2 = ((decide (b.toNat = 101) || decide (b.toNat = 69)) && (!decide (strip 45 (strip 43 q) = []) && (decide (((strip 45 (strip 43 q)).takeWhile isD).length = (strip 45 (strip 43 q)).length) && !(hdC 43 q && decide (strip 45 (strip 43 q) ≠ strip 43 q))))) := by
  have h43 : decide (strip 43 q ≠ q) = hdC 43 q := by
    have := strip_ne_iff 43 q
    have e : (43 : UInt8).toNat = 43 := rfl
    rw [e] at this
    cases h : hdC 43 q with
    | true => exact decide_eq_true (this.2 h)
    | false => exact decide_eq_false (fun k => by rw [this.1 k] at h; cases h)
  have hn : (strip 45 (strip 43 q)).isEmpty = decide (strip 45 (strip 43 q) = []) := by cases strip 45 (strip 43 q) <;> rfl
  unfold pExp
  simp only [h43, hn]
end Lg
namespace Lg
open Go
/-! ### A text in quotes -/
def hxd (n : Nat) : UInt8 := (([48, 49, 50, 51, 52, 53, 54, 55, 56, 57, 97, 98, 99, 100, 101, 102] : BL).getD n 0)
def qch (b : UInt8) : BL := if b.toNat = 34 ∨ b.toNat = 92 then [92, b] else if b.toNat < 32 then [92, 117, 48, 48, hxd (b.toNat / 16), hxd (b.toNat % 16)] else [b]
def qbody (l : BL) : BL := l.flatMap qch
def quoteL (l : BL) : BL := 34 :: qbody l ++ [34]
theorem qch_len (b : UInt8) : (qch b).length ≤ 6 := by unfold qch; split <;> (try split) <;> simp
theorem qbody_len (l : BL) : (qbody l).length ≤ 6 * l.length := by
  induction l with
  | nil => simp [qbody]
  | cons b l ih =>
    have := qch_len b
    simp only [qbody, List.flatMap_cons, List.length_append, List.length_cons] at *
    omega
theorem qbody_snoc (l : BL) (b : UInt8) : qbody (l ++ [b]) = qbody l ++ qch b := by simp [qbody]
theorem qbody_take {l : BL} {i : Nat} (h : i < l.length) : qbody (l.take (i + 1)) = qbody (l.take i) ++ qch (l.getD i 0) := by rw [take_snoc h, qbody_snoc]
theorem qch1 {b : UInt8} (h : b.toNat = 34 ∨ b.toNat = 92) : qch b = [92, b] := by unfold qch; rw [if_pos h]
theorem qch2 {b : UInt8} (h : ¬ (b.toNat = 34 ∨ b.toNat = 92)) (h2 : b.toNat < 32) : qch b = [92, 117, 48, 48, hxd (b.toNat / 16), hxd (b.toNat % 16)] := by unfold qch; rw [if_neg h, if_pos h2]
theorem qch3 {b : UInt8} (h : ¬ (b.toNat = 34 ∨ b.toNat = 92)) (h2 : ¬ b.toNat < 32) : qch b = [b] := by unfold qch; rw [if_neg h, if_neg h2]
end Lg
namespace Lg
open Go
/-! ### A value's canonical text -/
def nullL : BL := [110, 117, 108, 108]
def trueL : BL := [116, 114, 117, 101]
def falseL : BL := [102, 97, 108, 115, 101]
mutual
def jtx : JV → BL
  | .mk k b n s l m => if k = 1 then (if b then trueL else falseL) else if k = 2 then (jshow n).data.toList else if k = 3 then quoteL s.data.toList else
    if k = 4 then ljw 91 l ++ (if l.length = 0 then [91, 93] else [93]) else if k = 5 then mjw 123 m ++ (if m.length = 0 then [123, 125] else [125]) else nullL
def ljw (c : UInt8) : List JV → BL
  | [] => []
  | x :: r => c :: (jtx x ++ ljw 44 r)
def mjw (c : UInt8) : List (ByteArray × JV) → BL
  | [] => []
  | (k, x) :: r => c :: (quoteL k.data.toList ++ 58 :: (jtx x ++ mjw 44 r))
end
theorem jtx_eq (v : JV) : jtx v = if v.kind = 1 then (if v.b then trueL else falseL) else if v.kind = 2 then (jshow v.n).data.toList else if v.kind = 3 then quoteL v.s.data.toList else
    if v.kind = 4 then ljw 91 v.l ++ (if v.l.length = 0 then [91, 93] else [93]) else if v.kind = 5 then mjw 123 v.m ++ (if v.m.length = 0 then [123, 125] else [125]) else nullL := by
  cases v; rw [jtx]; rfl
theorem ljw_snoc : ∀ (l : List JV) (c : UInt8) (x : JV), ljw c (l ++ [x]) = ljw c l ++ (if l.length = 0 then c else 44) :: jtx x
  | [], c, x => by simp [ljw]
  | y :: r, c, x => by
    rw [List.cons_append, ljw, ljw_snoc r 44 x, ljw]
    cases r <;> simp
theorem mjw_snoc : ∀ (l : List (ByteArray × JV)) (c : UInt8) (x : ByteArray × JV), mjw c (l ++ [x]) = mjw c l ++ (if l.length = 0 then c else 44) :: (quoteL x.1.data.toList ++ 58 :: jtx x.2)
  | [], c, x => by simp [mjw]
  | y :: r, c, x => by
    rw [List.cons_append, mjw, mjw_snoc r 44 x, mjw]
    cases r <;> simp
theorem ltake_succ {α : Type} {l : List α} {i : Nat} {x : α} (h : l[i]? = some x) : l.take (i + 1) = l.take i ++ [x] := by rw [List.take_add_one, h]; rfl
theorem ljw_take {l : List JV} {i : Nat} {x : JV} (c : UInt8) (h : l[i]? = some x) : ljw c (l.take (i + 1)) = ljw c (l.take i) ++ (if i = 0 then c else 44) :: jtx x := by
  have hi := (List.getElem?_eq_some_iff.1 h).1
  rw [ltake_succ h, ljw_snoc, List.length_take, Nat.min_eq_left (by omega)]
theorem mjw_take {l : List (ByteArray × JV)} {i : Nat} {x : ByteArray × JV} (c : UInt8) (h : l[i]? = some x) : mjw c (l.take (i + 1)) = mjw c (l.take i) ++ (if i = 0 then c else 44) :: (quoteL x.1.data.toList ++ 58 :: jtx x.2) := by
  have hi := (List.getElem?_eq_some_iff.1 h).1
  rw [ltake_succ h, mjw_snoc, List.length_take, Nat.min_eq_left (by omega)]
theorem ljw_head (c : UInt8) (l : List JV) : ljw c l = if l.length = 0 then [] else c :: (ljw 44 l).tail := by cases l <;> simp [ljw]
theorem mjw_head (c : UInt8) (l : List (ByteArray × JV)) : mjw c l = if l.length = 0 then [] else c :: (mjw 44 l).tail := by
  cases l with
  | nil => simp [mjw]
  | cons x r => obtain ⟨k, y⟩ := x; simp [mjw]
theorem jshow_len (n : JNum) (h : n.digits.size ≤ 1000000) (h0 : -1000000 ≤ n.exp) (h1 : n.exp ≤ 1000000) : (jshow n).size ≤ 1000025 := by
  have := itoa_size (n := n.exp) (by omega) (by omega)
  have e1 : (⟨#[45]⟩ : ByteArray).size = 1 := rfl
  have e2 : (⟨#[101]⟩ : ByteArray).size = 1 := rfl
  have e3 : (⟨#[48]⟩ : ByteArray).size = 1 := rfl
  unfold jshow
  repeat' split
  all_goals (try simp only [ByteArray.size_append, e1, e2, e3])
  all_goals omega
/-- Kinds, strings, and numbers are such as the walk bears. -/
def jnb (n : JNum) : Prop := -1000000 ≤ n.exp ∧ n.exp ≤ 1000000
mutual
def jkb : JV → Prop
  | .mk k _ n _ l m => 0 ≤ k ∧ k ≤ 5 ∧ jnb n ∧ lkb l ∧ mkb m
def lkb : List JV → Prop
  | [] => True
  | v :: r => jkb v ∧ lkb r
def mkb : List (ByteArray × JV) → Prop
  | [] => True
  | (_, v) :: r => jkb v ∧ mkb r
end
theorem jkb_eq (v : JV) : jkb v ↔ 0 ≤ v.kind ∧ v.kind ≤ 5 ∧ jnb v.n ∧ lkb v.l ∧ mkb v.m := by cases v; simp [jkb, JV.kind, JV.n, JV.l, JV.m]
theorem lkb_get {l : List JV} {i : Nat} {x : JV} (h : lkb l) (hx : l[i]? = some x) : jkb x := by
  induction l generalizing i with
  | nil => simp at hx
  | cons a r ih =>
    cases i with
    | zero => simp at hx; subst hx; exact h.1
    | succ i => exact ih h.2 (by simpa using hx)
theorem mkb_get {l : List (ByteArray × JV)} {i : Nat} {x : ByteArray × JV} (h : mkb l) (hx : l[i]? = some x) : jkb x.2 := by
  induction l generalizing i with
  | nil => simp at hx
  | cons a r ih =>
    cases i with
    | zero => simp at hx; subst hx; exact h.1
    | succ i => exact ih h.2 (by simpa using hx)
theorem lkb_of : ∀ {l : List JV}, (∀ (i : Nat) x, l[i]? = some x → jkb x) → lkb l
  | [], _ => trivial
  | a :: r, h => ⟨h 0 a rfl, lkb_of fun i x hx => h (i + 1) x (by simpa using hx)⟩
theorem mkb_of : ∀ {l : List (ByteArray × JV)}, (∀ (i : Nat) x, l[i]? = some x → jkb x.2) → mkb l
  | [], _ => trivial
  | a :: r, h => ⟨h 0 a rfl, mkb_of fun i x hx => h (i + 1) x (by simpa using hx)⟩
theorem may_nb {n : JNum} (h : NumMay n) : jnb n := by
  rcases h with ⟨_, _, h⟩ | ⟨_, _, _, _, _, h1, h2⟩
  · unfold jnb; omega
  · unfold jnb; omega
theorem may_kb : ∀ (n : Nat) (v : JV), jsize v ≤ n → jmay v → jkb v := by
  intro n
  induction n with
  | zero => intro v h; have := jsize_pos v; omega
  | succ n ih =>
    intro v hn hm
    have hs := jsize_eq v
    have hl := lsize_nn v.l
    have hmm := msize_nn v.m
    obtain ⟨⟨h1, h2, h3, h4, h5⟩, h6, h7⟩ := (jmay_eq v).1 hm
    refine (jkb_eq v).2 ⟨h1, h2, may_nb h4, lkb_of fun i x hx => ih x ?_ (h7 i x hx), mkb_of fun i x hx => ih x.2 ?_ (h6 i x (List.getElem?_eq_some_iff.1 hx).1 hx).2⟩
    · have := lsize_mem hx; omega
    · have := msize_mem hx; omega
mutual
theorem jtx_len : ∀ v : JV, jb v → jkb v → ((jtx v).length : Int) + 7000010 ≤ 20000000 * jsize v
  | .mk k b n s l m => fun hb hk => by
    obtain ⟨b1, b2, b3, b4, b5, b6⟩ := hb
    obtain ⟨k1, k2, k3, k4, k5⟩ := hk
    have h1 := ljw_len l 91 b5 k4
    have h2 := mjw_len m 123 b6 k5
    have h3 := lsize_nn l
    have h4 := msize_nn m
    have h5 := jshow_len n b1 k3.1 k3.2
    have h6 := qbody_len s.data.toList
    have h7 : s.data.toList.length = s.size := Array.length_toList ..
    have h8 : (quoteL s.data.toList).length = (qbody s.data.toList).length + 2 := by unfold quoteL; simp
    have h9 : (jshow n).data.toList.length = (jshow n).size := Array.length_toList ..
    simp only [jtx, jsize, trueL, falseL, nullL]
    repeat' split
    all_goals (try simp only [List.length_append, List.length_cons, List.length_nil])
    all_goals omega
theorem ljw_len : ∀ (l : List JV) (c : UInt8), lb l → lkb l → ((ljw c l).length : Int) ≤ 20000000 * lsize l
  | [], c => fun _ _ => by simp [ljw, lsize]
  | x :: r, c => fun hb hk => by
    have h1 := jtx_len x hb.1 hk.1
    have h2 := ljw_len r 44 hb.2 hk.2
    simp only [ljw, lsize, List.length_append, List.length_cons]
    omega
theorem mjw_len : ∀ (l : List (ByteArray × JV)) (c : UInt8), mb l → mkb l → ((mjw c l).length : Int) ≤ 20000000 * msize l
  | [], c => fun _ _ => by simp [mjw, msize]
  | (k, x) :: r, c => fun hb hk => by
    have h1 := jtx_len x hb.2.1 hk.1
    have h2 := mjw_len r 44 hb.2.2 hk.2
    have h6 := qbody_len k.data.toList
    have h7 : k.data.toList.length = k.size := Array.length_toList ..
    have h8 : (quoteL k.data.toList).length = (qbody k.data.toList).length + 2 := by unfold quoteL; simp
    have h9 := hb.1
    simp only [mjw, msize, List.length_append, List.length_cons]
    omega
end
end Lg
namespace Lg
open Go Go.RowKit
variable [GLay] {P : Program} {τ ρ : List AO} {E : TypeId} {a a' : AV} {l l' : List UInt8}
/-! ### A Builder of the caller's, more objects behind it -/
end Lg
namespace Lg
open Go
theorem lb_take : ∀ (l : List JV) (i : Nat), lb l → lb (l.take i)
  | [], i, _ => by simp [lb]
  | a :: r, 0, _ => by simp [lb]
  | a :: r, i + 1, h => ⟨h.1, lb_take r i h.2⟩
theorem lkb_take : ∀ (l : List JV) (i : Nat), lkb l → lkb (l.take i)
  | [], i, _ => by simp [lkb]
  | a :: r, 0, _ => by simp [lkb]
  | a :: r, i + 1, h => ⟨h.1, lkb_take r i h.2⟩
theorem mb_take : ∀ (l : List (ByteArray × JV)) (i : Nat), mb l → mb (l.take i)
  | [], i, _ => by simp [mb]
  | a :: r, 0, _ => by simp [mb]
  | (k, x) :: r, i + 1, h => ⟨h.1, h.2.1, mb_take r i h.2.2⟩
theorem mkb_take : ∀ (l : List (ByteArray × JV)) (i : Nat), mkb l → mkb (l.take i)
  | [], i, _ => by simp [mkb]
  | a :: r, 0, _ => by simp [mkb]
  | (k, x) :: r, i + 1, h => ⟨h.1, mkb_take r i h.2⟩
def sgn (c : UInt8) : Nat → UInt8
  | 0 => c
  | _ + 1 => 44
theorem ljw_le {l : List JV} (c : UInt8) (h1 : lb l) (h2 : lkb l) (i : Nat) : ((ljw c (l.take i)).length : Int) ≤ 20000000 * lsize (l.take i) ∧ lsize (l.take i) ≤ lsize l := ⟨ljw_len _ c (lb_take l i h1) (lkb_take l i h2), lsize_take_le l i⟩
theorem mjw_le {l : List (ByteArray × JV)} (c : UInt8) (h1 : mb l) (h2 : mkb l) (i : Nat) : ((mjw c (l.take i)).length : Int) ≤ 20000000 * msize (l.take i) ∧ msize (l.take i) ≤ msize l := ⟨mjw_len _ c (mb_take l i h1) (mkb_take l i h2), msize_take_le l i⟩
theorem quote_size {s : ByteArray} (h : s.size ≤ 1000000) : (quoteL s.data.toList).length ≤ 6000002 := by
  have h6 := qbody_len s.data.toList
  have h7 : s.data.toList.length = s.size := Array.length_toList ..
  unfold quoteL; simp; omega
end Lg
namespace Lg
open Go Go.Lib
/-! ### UTF-8, put together -/
def u8L (l : List UInt8) : Nat := u8N l.length (l.getD 0 0).toNat (l.getD 1 0).toNat (l.getD 2 0).toNat (l.getD 3 0).toNat
theorem validD_u8 (l : List UInt8) (hne : l ≠ []) : validD l = if u8L l = 0 then false else validD (l.drop (u8L l)) := by
  rw [validD_step _ hne]
  have hw := decodeL_width l
  rw [decodeL_N] at hw ⊢
  unfold u8L u8N
  by_cases hc : (decodeN l.length (l.getD 0 0).toNat (l.getD 1 0).toNat (l.getD 2 0).toNat (l.getD 3 0).toNat).1 = 65533 ∧ (decodeN l.length (l.getD 0 0).toNat (l.getD 1 0).toNat (l.getD 2 0).toNat (l.getD 3 0).toNat).2 = 1
  · rw [if_pos hc, if_pos hc, if_pos rfl]
  · rw [if_neg hc, if_neg hc, if_neg (by omega)]
theorem u8N_pre {n b0 b1 b2 b3 n' c0 c1 c2 c3 w : Nat} (hb0 : b0 < 256) (h : u8N n b0 b1 b2 b3 = w) (hw : w ≠ 0) (hl : w ≤ n') (h0 : c0 = b0) (h1 : 1 < w → c1 = b1) (h2 : 2 < w → c2 = b2) (h3 : 3 < w → c3 = b3) (hn : 1 ≤ n) :
    u8N n' c0 c1 c2 c3 = w ∧ w ≤ n := by
  subst h0
  by_cases k0 : c0 < 128
  · rw [u8N_1 k0] at h; subst h; exact ⟨u8N_1 k0, hn⟩
  by_cases k1 : c0 < 192 ∨ 248 ≤ c0
  · rw [u8N_0 (by omega) hb0] at h; exact absurd h.symm hw
  by_cases k2 : c0 < 224
  · rw [u8N_2 (by omega) k2] at h
    split at h
    · subst h
      have := h1 (by omega); subst this
      rw [u8N_2 (by omega) k2, if_pos (by omega)]; omega
    · exact absurd h.symm hw
  by_cases k3 : c0 < 240
  · rw [u8N_3 (by omega) k3 rfl] at h
    split at h
    · subst h
      have := h1 (by omega); subst this
      have := h2 (by omega); subst this
      rw [u8N_3 (by omega) k3 rfl, if_pos (by omega)]; omega
    · exact absurd h.symm hw
  · rw [u8N_4 (by omega) (by omega) rfl] at h
    split at h
    · subst h
      have := h1 (by omega); subst this
      have := h2 (by omega); subst this
      have := h3 (by omega); subst this
      rw [u8N_4 (by omega) (by omega) rfl, if_pos (by omega)]; omega
    · exact absurd h.symm hw
theorem u8L_pre {L L' : List UInt8} (hne : L ≠ []) (hw : u8L L ≠ 0) (hl : u8L L ≤ L'.length) (hp : ∀ k, k < u8L L → L'.getD k 0 = L.getD k 0) : u8L L' = u8L L ∧ u8L L ≤ L.length := by
  have hn : 1 ≤ L.length := by cases L with
    | nil => exact absurd rfl hne
    | cons => simp
  exact u8N_pre (L.getD 0 0).toNat_lt (rfl : u8L L = u8L L) hw hl (by rw [hp 0 (by omega)]) (fun h => by rw [hp 1 h]) (fun h => by rw [hp 2 h]) (fun h => by rw [hp 3 h]) hn
theorem validD_app (m : List UInt8) (hm : validD m = true) : ∀ (n : Nat) (l : List UInt8), l.length ≤ n → validD l = true → validD (l ++ m) = true := by
  intro n
  induction n with
  | zero => intro l hl _; have : l = [] := List.eq_nil_of_length_eq_zero (by omega); subst this; exact hm
  | succ n ih =>
    intro l hl h
    by_cases hne : l = []
    · subst hne; exact hm
    rw [validD_u8 l hne] at h
    split at h
    · cases h
    · rename_i hw
      have hle := (u8L_pre hne hw (L' := l ++ List.replicate (u8L l) 0) (by simp) (fun k hk => by
        by_cases hkl : k < l.length
        · simp [List.getD_eq_getElem?_getD, List.getElem?_append_left hkl]
        · simp only [List.getD_eq_getElem?_getD]
          rw [List.getElem?_append_right (by omega), List.getElem?_eq_none (l := l) (by omega)]
          rw [List.getElem?_replicate]; split <;> rfl)).2
      have he := (u8L_pre hne hw (L' := l ++ m) (by simp; omega) (fun k hk => by
        simp [List.getD_eq_getElem?_getD, List.getElem?_append_left (show k < l.length by omega)])).1
      rw [validD_u8 (l ++ m) (by simp [hne]), he, if_neg hw, List.drop_append_of_le_length hle]
      exact ih _ (by rw [List.length_drop]; omega) h
theorem Utf.app {a b : ByteArray} (ha : Utf a) (hb : Utf b) : Utf (a ++ b) := by
  unfold Utf at *
  have : (a ++ b).data.toList = a.data.toList ++ b.data.toList := by simp
  rw [this]
  exact validD_app _ hb _ _ (Nat.le_refl _) ha
theorem u8L_bat (s : ByteArray) (i : Nat) : u8L (s.data.toList.drop i) = u8 s i := by
  have hg : ∀ k, (s.data.toList.drop i).getD k 0 = bat s (i + k) := fun k => by simp [bat, List.getD, List.getElem?_drop]
  unfold u8L u8
  rw [hg, hg, hg, hg, List.length_drop, Array.length_toList]; rfl
theorem Utf.ext {s : ByteArray} {i : Nat} (h : i < s.size) (hu : ¬ u8 s i = 0) : Utf (s.extract i (i + u8 s i)) := by
  have hne : s.data.toList.drop i ≠ [] := by
    intro e
    have := congrArg List.length e
    rw [List.length_drop, Array.length_toList] at this
    have h' : i < s.data.size := h
    simp at this; omega
  have hle := u8_le h
  have hsz : s.data.size = s.size := rfl
  have hlist : (s.extract i (i + u8 s i)).data.toList = (s.data.toList.drop i).take (u8 s i) := by
    simp [ByteArray.data_extract, List.extract_eq_take_drop]
  have hlen : ((s.data.toList.drop i).take (u8 s i)).length = u8 s i := by simp; omega
  unfold Utf
  rw [hlist]
  have he := (u8L_pre hne (by rw [u8L_bat]; exact hu) (L' := (s.data.toList.drop i).take (u8 s i)) (by rw [hlen, u8L_bat]; exact Nat.le_refl _) (fun k hk => by
    rw [u8L_bat] at hk
    simp only [List.getD_eq_getElem?_getD, List.getElem?_take, hk, if_true])).1
  rw [u8L_bat] at he
  rw [validD_u8 _ (fun e => by rw [e] at hlen; simp at hlen; omega), he, if_neg hu, List.drop_eq_nil_of_le (by omega)]
  rfl
theorem u8b_nat {n : Int} (h0 : 0 ≤ n) (h1 : n < 256) : (u8b n).toNat = n.toNat := by
  have := u8b_toNat h0 h1; omega
theorem Utf.char {v : Int} (h0 : 0 ≤ v) (h1 : v < 1114112) (h2 : ¬ (55296 ≤ v ∧ v < 57344)) : Utf (rchar v) := by
  unfold Utf rchar
  split
  · show validD [u8b v] = true
    rw [validD_cons _ _ (by rw [u8b_nat h0 (by omega)]; omega)]; rfl
  split
  · show validD [u8b (192 + v / 64), u8b (128 + v % 64)] = true
    have e : u8L [u8b (192 + v / 64), u8b (128 + v % 64)] = 2 := by
      show u8N 2 (u8b (192 + v / 64)).toNat (u8b (128 + v % 64)).toNat 0 0 = 2
      rw [u8b_nat (by omega) (by omega), u8b_nat (by omega) (by omega), u8N_2 (by omega) (by omega), if_pos (by omega)]
    rw [validD_u8 _ (by simp), e]; rfl
  split
  · show validD [u8b (224 + v / 4096), u8b (128 + v / 64 % 64), u8b (128 + v % 64)] = true
    have e : u8L [u8b (224 + v / 4096), u8b (128 + v / 64 % 64), u8b (128 + v % 64)] = 3 := by
      show u8N 3 (u8b (224 + v / 4096)).toNat (u8b (128 + v / 64 % 64)).toNat (u8b (128 + v % 64)).toNat 0 = 3
      rw [u8b_nat (by omega) (by omega), u8b_nat (by omega) (by omega), u8b_nat (by omega) (by omega), u8N_3 (by omega) (by omega) rfl, if_pos (by omega)]
    rw [validD_u8 _ (by simp), e]; rfl
  · show validD [u8b (240 + v / 262144), u8b (128 + v / 4096 % 64), u8b (128 + v / 64 % 64), u8b (128 + v % 64)] = true
    have e : u8L [u8b (240 + v / 262144), u8b (128 + v / 4096 % 64), u8b (128 + v / 64 % 64), u8b (128 + v % 64)] = 4 := by
      show u8N 4 (u8b (240 + v / 262144)).toNat (u8b (128 + v / 4096 % 64)).toNat (u8b (128 + v / 64 % 64)).toNat (u8b (128 + v % 64)).toNat = 4
      rw [u8b_nat (by omega) (by omega), u8b_nat (by omega) (by omega), u8b_nat (by omega) (by omega), u8b_nat (by omega) (by omega), u8N_4 (by omega) (by omega) rfl, if_pos (by omega)]
    rw [validD_u8 _ (by simp), e]; rfl
theorem esc_ok {c b : Nat} (h : esc c = some b) : b < 128 := by
  unfold esc at h
  rw [Option.map_eq_some_iff] at h
  obtain ⟨q, hq, rfl⟩ := h
  have := List.mem_of_find?_eq_some hq
  revert this
  have : ∀ q ∈ escL, q.2 < 128 := by decide
  exact this q
theorem Utf.asc {b : Nat} (h : b < 128) : Utf ⟨#[UInt8.ofNat b]⟩ := by
  unfold Utf
  show validD [UInt8.ofNat b] = true
  rw [validD_cons _ _ (by rw [UInt8.toNat_ofNat']; omega)]; rfl
/-- What a text in quotes comes to. -/
def UOK (s : ByteArray) (a : Nat) (u : UR) : Prop := (u.bad = 0 ∧ 0 ≤ u.n ∧ (a : Int) + u.n ≤ s.size ∧ Utf u.s ∧ (u.s.size : Int) ≤ u.n) ∨ ((u.bad = 1 ∨ u.bad = 2) ∧ u.n = 0 ∧ u.s = e0)
theorem unqF_ok (s : ByteArray) (a : Nat) : ∀ (k i : Nat) (out : ByteArray), s.size - i ≤ k → a < i → Utf out → out.size ≤ i - a → UOK s a (unqF s a i out) := by
  intro k
  induction k with
  | zero => intro i out hk hi hu ho; rw [unqF_end (by omega)]; exact .inr ⟨.inl rfl, rfl, rfl⟩
  | succ k ih =>
    intro i out hk hi hu ho
    by_cases h : s.size ≤ i
    · rw [unqF_end h]; exact .inr ⟨.inl rfl, rfl, rfl⟩
    by_cases h1 : (bat s i).toNat = 34
    · rw [unqF_q (by omega) h1]; exact .inl ⟨rfl, by dsimp only; omega, by dsimp only; omega, hu, by dsimp only; omega⟩
    by_cases h2 : (bat s i).toNat < 32
    · rw [unqF_ctl (by omega) h2]; exact .inr ⟨.inl rfl, rfl, rfl⟩
    by_cases h3 : (bat s i).toNat = 92
    · by_cases h4 : i + 1 = s.size
      · rw [unqF_last h4 h3]; exact .inr ⟨.inl rfl, rfl, rfl⟩
      by_cases h5 : (bat s (i + 1)).toNat = 117
      · by_cases h6 : 0 ≤ (rhex s (i + 2)).2
        · rw [unqF_hb (by omega) h3 h5 h6]; exact .inr ⟨.inl rfl, rfl, rfl⟩
        have hx := rhex_ok s (i + 2)
        have hl := rlow_ok s (i + 6)
        by_cases h7 : 55296 ≤ (rhex s (i + 2)).1 ∧ (rhex s (i + 2)).1 < 56320 ∧ 0 ≤ rlow s (i + 6)
        · rw [unqF_pair (by omega) h3 h5 (by omega) h7]
          have hs := rchar_size (65536 + 1024 * ((rhex s (i + 2)).1 - 55296) + rlow s (i + 6) - 56320)
          exact ih _ _ (by omega) (by omega) (hu.app (Utf.char (by omega) (by omega) (by omega))) (by rw [ByteArray.size_append]; omega)
        by_cases h8 : 55296 ≤ (rhex s (i + 2)).1 ∧ (rhex s (i + 2)).1 < 57344
        · rw [unqF_sur (by omega) h3 h5 (by omega) h7 h8]; exact .inr ⟨.inr rfl, rfl, rfl⟩
        · rw [unqF_u (by omega) h3 h5 (by omega) h7 h8]
          have hs := rchar_size (rhex s (i + 2)).1
          exact ih _ _ (by omega) (by omega) (hu.app (Utf.char (by omega) (by omega) h8)) (by rw [ByteArray.size_append]; omega)
      · cases h6 : esc (bat s (i + 1)).toNat with
        | none => rw [unqF_eb (by omega) h3 h5 h6]; exact .inr ⟨.inl rfl, rfl, rfl⟩
        | some b =>
          rw [unqF_e (by omega) h3 h5 h6]
          have h1b : (ByteArray.mk #[UInt8.ofNat b]).size = 1 := rfl
          exact ih _ _ (by omega) (by omega) (hu.app (Utf.asc (esc_ok h6))) (by rw [ByteArray.size_append]; omega)
    · by_cases h4 : u8 s i = 0
      · rw [unqF_bad (by omega) h1 (by omega) h3 h4]; exact .inr ⟨.inr rfl, rfl, rfl⟩
      · rw [unqF_plain (by omega) h1 (by omega) h3 h4]
        exact ih _ _ (by omega) (by omega) (hu.app (Utf.ext (by omega) h4)) (by rw [ByteArray.size_append, ByteArray.size_extract]; omega)
theorem rUnq_ok (s : ByteArray) (a : Nat) : UOK s a (rUnq s (a : Int)) := by
  unfold rUnq
  split
  · exact .inr ⟨.inl rfl, rfl, rfl⟩
  split
  · exact .inr ⟨.inl rfl, rfl, rfl⟩
  · rw [Int.toNat_natCast]
    exact unqF_ok s a _ _ _ (Nat.le_refl _) (by omega) rfl (Nat.zero_le _)
end Lg
namespace Lg
open Go
/-! ### The reader, plainly -/
structure RS where
  a : Nat
  deep : Int
  bad : Int
  spot : Int
abbrev rbox (s : ByteArray) (r : RS) : AO := .box [.str s, .int .i64 (r.a : Int), .int .i64 r.deep, .int .i64 r.bad, .int .i64 r.spot]
def rfail (r : RS) (a b : Int) : RS := ⟨r.a, r.deep, if r.bad = 0 then b else r.bad, if r.bad = 0 then a else r.spot⟩
def rblank (s : ByteArray) (r : RS) : RS := ⟨if r.bad = 0 then blk s r.a else r.a, r.deep, r.bad, r.spot⟩
def ropen (s : ByteArray) (r : RS) : RS :=
  ⟨if (if r.deep = 32 then (if r.bad = 0 then 3 else r.bad) else r.bad) = 0 then blk s (r.a + 1) else r.a + 1, r.deep + 1, if r.deep = 32 then (if r.bad = 0 then 3 else r.bad) else r.bad, if r.deep = 32 then (if r.bad = 0 then (r.a : Int) else r.spot) else r.spot⟩
def rinc (r : RS) : RS := ⟨r.a + 1, r.deep, r.bad, r.spot⟩
def wstep (s : ByteArray) (c : UInt8) (r : RS) : RS := if pkv s r.a r.bad = c.toNat then rinc r else rinc (rfail r r.a 1)
def wantF (s lit : ByteArray) (i : Nat) (r : RS) : RS := if i < lit.size ∧ r.bad = 0 then wantF s lit (i + 1) (wstep s (bat lit i) r) else r
termination_by lit.size - i
def rwant (s lit : ByteArray) (r : RS) : RS := wantF s lit 0 r
def rtext (s : ByteArray) (r : RS) : ByteArray × RS :=
  if r.bad = 0 then ((rUnq s r.a).s, ⟨r.a + (rUnq s r.a).n.toNat, r.deep, (rUnq s r.a).bad, if (rUnq s r.a).bad = 0 then r.spot else (rUnq s r.a).at_⟩) else (e0, r)
def rdec (r : RS) : RS := ⟨r.a, r.deep - 1, r.bad, r.spot⟩
section
variable (rv : RS → JV × RS) (s : ByteArray)
def rarrF : Nat → List JV → RS → List JV × RS
  | 0, l, r => (l, r)
  | k + 1, l, r => if r.bad = 0 ∧ (¬ pkv s r.a r.bad = 93 ∨ 0 < l.length) then
      (if pkv s (rv r).2.a (rv r).2.bad = 44 then rarrF k (l ++ [(rv r).1]) (rinc (rv r).2) else (l ++ [(rv r).1], (rv r).2))
    else (l, r)
def rb1 : ByteArray := ⟨#[93]⟩
def rb2 : ByteArray := ⟨#[125]⟩
def rb3 : ByteArray := ⟨#[58]⟩
def rarr (r : RS) : JV × RS := (.mk 4 false {} e0 (rarrF rv s (s.size + 2) [] (ropen s r)).1 [], rdec (rwant s rb1 (rarrF rv s (s.size + 2) [] (ropen s r)).2))
def rinsK (m : List (ByteArray × JV)) (key : ByteArray) : Nat := (m.takeWhile fun q => blt q.1 key).length
def rins (m : List (ByteArray × JV)) (key : ByteArray) (x : JV) : List (ByteArray × JV) := m.take (rinsK m key) ++ (key, x) :: m.drop (rinsK m key)
def mkO (m : List (ByteArray × JV)) : JV := .mk 5 false {} e0 [] m
/-- Behind a member's key: a key that was there is amiss. -/
def rk2 (m : List (ByteArray × JV)) (r : RS) : RS := if (jfind (mkO m) (rtext s (rblank s r)).1).isSome = true then rfail (rtext s (rblank s r)).2 (rblank s r).a 4 else (rtext s (rblank s r)).2
/-- A member's key, and what stands behind it: up to its value. -/
def rkey (m : List (ByteArray × JV)) (r : RS) : ByteArray × RS := ((rtext s (rblank s r)).1, rwant s rb3 (rblank s (rk2 s m r)))
def robjF : Nat → List (ByteArray × JV) → RS → List (ByteArray × JV) × RS
  | 0, m, r => (m, r)
  | k + 1, m, r => if r.bad = 0 ∧ (¬ pkv s r.a r.bad = 125 ∨ 0 < m.length) then
      (if pkv s (rv (rkey s m r).2).2.a (rv (rkey s m r).2).2.bad = 44 then robjF k (rins m (rkey s m r).1 (rv (rkey s m r).2).1) (rinc (rv (rkey s m r).2).2) else (rins m (rkey s m r).1 (rv (rkey s m r).2).1, (rv (rkey s m r).2).2))
    else (m, r)
def robj (r : RS) : JV × RS := (mkO (robjF rv s (s.size + 2) [] (ropen s r)).1, rdec (rwant s rb2 (robjF rv s (s.size + 2) [] (ropen s r)).2))
end
def lNull : ByteArray := ⟨#[110, 117, 108, 108]⟩
def lTrue : ByteArray := ⟨#[116, 114, 117, 101]⟩
def lFalse : ByteArray := ⟨#[102, 97, 108, 115, 101]⟩
noncomputable def rnumv (s : ByteArray) (r : RS) : JV × RS :=
  (.mk 2 false (rNum (s.extract r.a (rEnd s r.a).1)).1 e0 [] [],
   ⟨(rEnd s r.a).1, r.deep, (if (rNum (s.extract r.a (rEnd s r.a).1)).2 = 0 then (if (rEnd s r.a).2 = true then r else rfail r (rEnd s r.a).1 1) else rfail (if (rEnd s r.a).2 = true then r else rfail r (rEnd s r.a).1 1) r.a 5).bad,
    (if (rNum (s.extract r.a (rEnd s r.a).1)).2 = 0 then (if (rEnd s r.a).2 = true then r else rfail r (rEnd s r.a).1 1) else rfail (if (rEnd s r.a).2 = true then r else rfail r (rEnd s r.a).1 1) r.a 5).spot⟩)
/-- What a byte begins. -/
noncomputable def rone (rv : RS → JV × RS) (s : ByteArray) (r : RS) : JV × RS :=
  if pkv s r.a r.bad = 123 then robj rv s r else
  if pkv s r.a r.bad = 91 then rarr rv s r else
  if pkv s r.a r.bad = 34 then (.mk 3 false {} (rtext s r).1 [] [], (rtext s r).2) else
  if pkv s r.a r.bad = 110 then (vz, rwant s lNull r) else
  if pkv s r.a r.bad = 116 then (.mk 1 true {} e0 [] [], rwant s lTrue r) else
  if pkv s r.a r.bad = 102 then (.mk 1 false {} e0 [] [], rwant s lFalse r) else
  if pkv s r.a r.bad = 45 ∨ (48 ≤ pkv s r.a r.bad ∧ pkv s r.a r.bad ≤ 57) then rnumv s r else (vz, rfail r r.a 1)
noncomputable def rval : Nat → ByteArray → RS → JV × RS
  | 0, s, r => (vz, r)
  | n + 1, s, r => ((rone (rval n s) s (rblank s r)).1, rblank s (rone (rval n s) s (rblank s r)).2)
noncomputable def rpar (s : ByteArray) : JV × RS := rval (s.size + 2) s ⟨0, 0, 0, 0⟩
noncomputable def rparE (s : ByteArray) : RS := if (rpar s).2.bad = 0 ∧ (rpar s).2.a < s.size then rfail (rpar s).2 (rpar s).2.a 1 else (rpar s).2
noncomputable def rParse (s : ByteArray) : JV × Int × Int :=
  if 20000 < s.size then (vz, 5, 20000) else if (rparE s).bad = 0 then ((rpar s).1, 0, 0) else (vz, (rparE s).bad, (rparE s).spot)

/-! ### How far the reader comes -/
structure ROK (s : ByteArray) (r : RS) : Prop where
  a : r.a ≤ s.size + 1
  b : r.bad = 0 → r.a ≤ s.size
  d0 : 0 ≤ r.deep
  d1 : r.deep ≤ r.a
/-- From r on to r'. -/
structure RTo (s : ByteArray) (r r' : RS) : Prop where
  a : r.a ≤ r'.a
  ok : ROK s r'
  b : r'.bad = 0 → r.bad = 0
theorem RTo.refl {s : ByteArray} {r : RS} (h : ROK s r) : RTo s r r := ⟨Nat.le_refl _, h, id⟩
theorem RTo.trans {s : ByteArray} {r r' r'' : RS} (h : RTo s r r') (k : RTo s r' r'') : RTo s r r'' := ⟨Nat.le_trans h.a k.a, k.ok, fun e => h.b (k.b e)⟩
theorem rfail_bad {r : RS} {a b : Int} (hb : b ≠ 0) : (rfail r a b).bad ≠ 0 := by
  unfold rfail; dsimp only; split <;> assumption
theorem rfail_to {s : ByteArray} {r : RS} (h : ROK s r) {a b : Int} (hb : b ≠ 0) : RTo s r (rfail r a b) := by
  have hbad := rfail_bad (r := r) (a := a) hb
  exact ⟨Nat.le_refl _, ⟨h.a, fun e => absurd e hbad, h.d0, h.d1⟩, fun e => absurd e hbad⟩
theorem rblank_to {s : ByteArray} {r : RS} (h : ROK s r) : RTo s r (rblank s r) := by
  have h1 := blk_le s r.a
  have h2 := h.a; have h3 := h.d1
  by_cases hb : r.bad = 0
  · have h4 := h.b hb
    refine ⟨?_, ⟨?_, ?_, h.d0, ?_⟩, fun _ => hb⟩ <;> simp only [rblank, if_pos hb] <;> omega
  · refine ⟨?_, ⟨?_, ?_, h.d0, ?_⟩, id⟩ <;> simp only [rblank, if_neg hb] <;> omega
theorem ropen_to {s : ByteArray} {r : RS} (h : ROK s r) (hb : r.bad = 0) (ha : r.a < s.size) : RTo s r (ropen s r) ∧ r.a + 1 ≤ (ropen s r).a ∧ (ropen s r).deep = r.deep + 1 := by
  have h1 := blk_le s (r.a + 1)
  have h2 := h.d1; have h3 := h.d0
  by_cases hd : r.deep = 32
  · have e : ropen s r = ⟨r.a + 1, r.deep + 1, 3, r.a⟩ := by simp [ropen, hd, hb]
    rw [e]
    exact ⟨⟨by dsimp only; omega, ⟨by dsimp only; omega, fun e => absurd e (show ¬ (3 : Int) = 0 by decide), by dsimp only; omega, by dsimp only; omega⟩, fun e => absurd e (show ¬ (3 : Int) = 0 by decide)⟩, Nat.le_refl _, rfl⟩
  · have e : ropen s r = ⟨blk s (r.a + 1), r.deep + 1, 0, r.spot⟩ := by simp [ropen, hd, hb]
    rw [e]
    exact ⟨⟨by dsimp only; omega, ⟨by dsimp only; omega, fun _ => by dsimp only; omega, by dsimp only; omega, by dsimp only; omega⟩, fun _ => hb⟩, by dsimp only; omega, rfl⟩
theorem rinc_to {s : ByteArray} {r : RS} (h : ROK s r) (ha : 0 ≤ pkv s r.a r.bad) : RTo s r (rinc r) := by
  have h1 := pk_yes ha
  have h2 := h.d1
  exact ⟨by dsimp only [rinc]; omega, ⟨by dsimp only [rinc]; omega, fun _ => by dsimp only [rinc]; omega, h.d0, by dsimp only [rinc]; omega⟩, id⟩
theorem wstep_to {s : ByteArray} {c : UInt8} {r : RS} (h : ROK s r) (hb : r.bad = 0) : RTo s r (wstep s c r) ∧ (wstep s c r).deep = r.deep := by
  have h2 := h.d1; have h3 := h.b hb
  unfold wstep
  split
  · rename_i hp; exact ⟨rinc_to h (by omega), rfl⟩
  · have hbad := rfail_bad (r := r) (a := (r.a : Int)) (b := 1) (by decide)
    exact ⟨⟨by dsimp only [rinc, rfail]; omega, ⟨by dsimp only [rinc, rfail]; omega, fun e => absurd e hbad, h.d0, by dsimp only [rinc, rfail]; omega⟩, fun _ => hb⟩, rfl⟩
theorem wantF_to {s lit : ByteArray} : ∀ (k i : Nat) (r : RS), lit.size - i ≤ k → ROK s r → RTo s r (wantF s lit i r) ∧ (wantF s lit i r).deep = r.deep := by
  intro k
  induction k with
  | zero => intro i r hk h; rw [wantF, if_neg (by omega)]; exact ⟨.refl h, rfl⟩
  | succ k ih =>
    intro i r hk h
    rw [wantF]
    split
    · rename_i hc
      have h1 := wstep_to (s := s) (c := bat lit i) h hc.2
      have h2 := ih (i + 1) _ (by omega) h1.1.ok
      exact ⟨h1.1.trans h2.1, h2.2.trans h1.2⟩
    · exact ⟨.refl h, rfl⟩
theorem rwant_to {s lit : ByteArray} {r : RS} (h : ROK s r) : RTo s r (rwant s lit r) ∧ (rwant s lit r).deep = r.deep := wantF_to _ 0 r (Nat.le_refl _) h
theorem rtext_to {s : ByteArray} {r : RS} (h : ROK s r) : RTo s r (rtext s r).2 ∧ (rtext s r).2.deep = r.deep ∧ Utf (rtext s r).1 ∧ r.a + (rtext s r).1.size ≤ (rtext s r).2.a := by
  have h2 := h.d1; have h4 := h.a
  unfold rtext
  split
  · rename_i hb
    have h3 := h.b hb
    rcases rUnq_ok s r.a with ⟨q1, q2, q3, q4, q5⟩ | ⟨q1, q2, q3⟩
    · exact ⟨⟨by dsimp only; omega, ⟨by dsimp only; omega, fun _ => by dsimp only; omega, h.d0, by dsimp only; omega⟩, fun _ => hb⟩, rfl, q4, by dsimp only; omega⟩
    · exact ⟨⟨by dsimp only; omega, ⟨by dsimp only; omega, fun e => by dsimp only at e; omega, h.d0, by dsimp only; omega⟩, fun _ => hb⟩, rfl, by dsimp only; rw [q3]; rfl, by dsimp only; rw [q3]; show r.a + 0 ≤ _; omega⟩
  · exact ⟨.refl h, rfl, rfl, Nat.le_refl _⟩
end Lg
namespace Lg
open Go
variable [GLay]
/-! ### What is read may be -/
theorem bytesLess_trans : ∀ (a b c : List UInt8), Op.bytesLess a b = true → Op.bytesLess b c = true → Op.bytesLess a c = true
  | [], [], _, h, _ => by simp [Op.bytesLess] at h
  | [], _ :: _, [], _, h => by simp [Op.bytesLess] at h
  | [], _ :: _, _ :: _, _, _ => by simp [Op.bytesLess]
  | _ :: _, [], _, h, _ => by simp [Op.bytesLess] at h
  | _ :: _, _ :: _, [], _, h => by simp [Op.bytesLess] at h
  | x :: a, y :: b, z :: c, h, k => by
    simp only [Op.bytesLess] at h k ⊢
    have ih := bytesLess_trans a b c
    have e1 : ∀ u v : UInt8, (u < v) = (u.toNat < v.toNat) := fun u v => by rw [UInt8.lt_iff_toNat_lt]
    have e2 : ∀ u v : UInt8, (u = v) = (u.toNat = v.toNat) := fun u v => by rw [UInt8.toNat_inj]
    simp only [e1, beq_iff_eq, e2, Bool.if_true_left, Bool.or_eq_true, decide_eq_true_eq, Bool.and_eq_true, Bool.if_false_right] at h k ⊢
    rcases h with h | h <;> rcases k with k | k
    · left; omega
    · left; omega
    · left; omega
    · right; exact ⟨by omega, ih h.2 k.2⟩
theorem blt_trans {a b c : ByteArray} (h : blt a b = true) (k : blt b c = true) : blt a c = true := bytesLess_trans _ _ _ h k
theorem vz_may : jmay vz := (jmay_eq vz).2 ⟨⟨by decide, by decide, by decide, zmay, zutf⟩, fun j q hj => absurd hj (by simp [vz, JV.m]), fun i x hx => by simp [vz, JV.l] at hx⟩
theorem may_b (b : Bool) : jmay (.mk 1 b {} e0 [] []) := (jmay_eq _).2 ⟨⟨by simp [JV.kind], by simp [JV.kind], by cases b <;> decide, zmay, zutf⟩, fun j q hj => absurd hj (by simp [JV.m]), fun i x hx => by simp [JV.l] at hx⟩
theorem may_s {t : ByteArray} (h : Utf t) : jmay (.mk 3 false {} t [] []) := (jmay_eq _).2 ⟨⟨by simp [JV.kind], by simp [JV.kind], by simp [jbare, JV.kind, JV.b, JV.n, JV.s, JV.l, JV.m, JNum.z], zmay, h⟩, fun j q hj => absurd hj (by simp [JV.m]), fun i x hx => by simp [JV.l] at hx⟩
theorem may_n {n : JNum} (h : NumMay n) : jmay (.mk 2 false n e0 [] []) := (jmay_eq _).2 ⟨⟨by simp [JV.kind], by simp [JV.kind], by simp [jbare, JV.kind, JV.b, JV.n, JV.s, JV.l, JV.m, e0], h, zutf⟩, fun j q hj => absurd hj (by simp [JV.m]), fun i x hx => by simp [JV.l] at hx⟩
theorem may_l {l : List JV} (h : lmay l) : jmay (.mk 4 false {} e0 l []) := (jmay_eq _).2 ⟨⟨by simp [JV.kind], by simp [JV.kind], by simp [jbare, JV.kind, JV.b, JV.n, JV.s, JV.l, JV.m, JNum.z, e0], zmay, zutf⟩, fun j q hj => absurd hj (by simp [JV.m]), fun i x hx => (lmay_iff l).1 h i x hx⟩
/-- Members that may be: their keys rise. -/
def MOK (m : List (ByteArray × JV)) : Prop := (∀ q ∈ m, Utf q.1 ∧ jmay q.2) ∧ m.Pairwise fun p q => blt p.1 q.1 = true
theorem MOK.mok {m : List (ByteArray × JV)} (h : MOK m) : mok m m.length := fun j q _ hq => by
  have hm := h.1 q (List.mem_of_getElem? hq)
  refine ⟨⟨hm.1, fun q' hj hq' => ?_⟩, hm.2⟩
  obtain ⟨h1, rfl⟩ := List.getElem?_eq_some_iff.1 hq
  obtain ⟨h2, rfl⟩ := List.getElem?_eq_some_iff.1 hq'
  exact List.pairwise_iff_getElem.1 h.2 (j - 1) j h2 h1 (by omega)
theorem may_m {m : List (ByteArray × JV)} (h : MOK m) : jmay (mkO m) := (jmay_eq _).2 ⟨⟨by simp [mkO, JV.kind], by simp [mkO, JV.kind], by simp [mkO, jbare, JV.kind, JV.b, JV.n, JV.s, JV.l, JV.m, JNum.z, e0], zmay, zutf⟩, h.mok, fun i x hx => by simp [mkO, JV.l] at hx⟩
theorem rins_nil (key : ByteArray) (x : JV) : rins [] key x = [(key, x)] := rfl
theorem rins_cons (q : ByteArray × JV) (m : List (ByteArray × JV)) (key : ByteArray) (x : JV) : rins (q :: m) key x = if blt q.1 key = true then q :: rins m key x else (key, x) :: q :: m := by
  unfold rins rinsK
  by_cases h : blt q.1 key = true
  · simp [List.takeWhile_cons, h]
  · simp [List.takeWhile_cons, h]
theorem rins_mem {m : List (ByteArray × JV)} {key : ByteArray} {x : JV} : ∀ q ∈ rins m key x, q ∈ m ∨ q = (key, x) := by
  induction m with
  | nil => intro q hq; rw [rins_nil] at hq; exact .inr (List.mem_singleton.1 hq)
  | cons p m ih =>
    intro q hq
    rw [rins_cons] at hq
    split at hq
    · rcases List.mem_cons.1 hq with rfl | h
      · exact .inl (List.mem_cons_self ..)
      · exact (ih q h).imp (List.mem_cons_of_mem _) id
    · rcases List.mem_cons.1 hq with rfl | h
      · exact .inr rfl
      · exact .inl h
theorem rins_pw {m : List (ByteArray × JV)} {key : ByteArray} {x : JV} (h : m.Pairwise fun p q => blt p.1 q.1 = true) (hk : ∀ q ∈ m, ¬ q.1 = key) : (rins m key x).Pairwise fun p q => blt p.1 q.1 = true := by
  induction m with
  | nil => rw [rins_nil]; exact List.pairwise_singleton _ _
  | cons p m ih =>
    rw [rins_cons]
    obtain ⟨h1, h2⟩ := List.pairwise_cons.1 h
    split
    · rename_i hl
      refine List.pairwise_cons.2 ⟨fun q hq => ?_, ih h2 fun q hq => hk q (List.mem_cons_of_mem _ hq)⟩
      rcases rins_mem q hq with h3 | rfl
      · exact h1 q h3
      · exact hl
    · rename_i hl
      have hlt : blt key p.1 = true := bytesLess_total _ _ (by simpa [blt] using hl) fun e => hk p (List.mem_cons_self ..) (by
        have := ba_beq p.1 key
        rw [e] at this; simpa using this)
      refine List.pairwise_cons.2 ⟨fun q hq => ?_, h⟩
      rcases List.mem_cons.1 hq with rfl | h3
      · exact hlt
      · exact blt_trans hlt (h1 q h3)
theorem MOK.ins {m : List (ByteArray × JV)} {key : ByteArray} {x : JV} (h : MOK m) (h1 : Utf key) (h2 : jmay x) (hk : ∀ q ∈ m, ¬ q.1 = key) : MOK (rins m key x) :=
  ⟨fun q hq => by
    rcases rins_mem q hq with h3 | rfl
    · exact h.1 q h3
    · exact ⟨h1, h2⟩, rins_pw h.2 hk⟩
theorem msize_ins (m : List (ByteArray × JV)) (key : ByteArray) (x : JV) : msize (rins m key x) = msize m + jsize x := by
  induction m with
  | nil => rw [rins_nil]; simp [msize]
  | cons p m ih =>
    obtain ⟨k, v⟩ := p
    rw [rins_cons]
    split
    · simp only [msize, ih]; omega
    · simp only [msize]; omega
theorem mb_ins {m : List (ByteArray × JV)} {key : ByteArray} {x : JV} (h : mb m) (h1 : key.size ≤ 1000000) (h2 : jb x) : mb (rins m key x) := by
  induction m with
  | nil => rw [rins_nil]; exact ⟨h1, h2, trivial⟩
  | cons p m ih =>
    obtain ⟨k, v⟩ := p
    rw [rins_cons]
    split
    · exact ⟨h.1, h.2.1, ih h.2.2⟩
    · exact ⟨h1, h2, h⟩
theorem lsize_snoc (l : List JV) (x : JV) : lsize (l ++ [x]) = lsize l + jsize x := by
  induction l with
  | nil => simp [lsize]
  | cons a l ih => simp only [List.cons_append, lsize, ih]; omega
theorem lcells_snoc (l : List JV) (x : JV) : (lcells (l ++ [x])).flatten = (lcells l).flatten ++ vcells x := by
  rw [lcells_eq, lcells_eq]; simp
theorem lflat_len (l : List JV) : (lcells l).flatten.length = l.length * 8 := by
  induction l with
  | nil => simp [lcells]
  | cons a l ih => simp only [lcells, List.flatten_cons, List.length_append, ih, vlen, List.length_cons]; omega
theorem ltL_append (n : Nat) (a b : List AV) : AV.ltL n (a ++ b) ↔ AV.ltL n a ∧ AV.ltL n b := by
  induction a with
  | nil => simp [AV.ltL]
  | cons x a ih => simp only [List.cons_append, AV.ltL, ih, and_assoc]
theorem lflat_lt (n : Nat) (l : List JV) : AV.ltL n (lcells l).flatten := by
  induction l with
  | nil => simp [lcells, AV.ltL]
  | cons a l ih => simp only [lcells, List.flatten_cons, ltL_append]; exact ⟨vcells_lt n a, ih⟩
theorem lrow_len (l : List JV) : ∀ r ∈ lcells l, r.length = 8 := fun r hr => by
  rw [lcells_eq] at hr
  obtain ⟨v, _, rfl⟩ := List.mem_map.1 hr
  exact vlen v
theorem lb_snoc {l : List JV} {x : JV} (h : lb l) (hx : jb x) : lb (l ++ [x]) := by
  induction l with
  | nil => exact ⟨hx, trivial⟩
  | cons a l ih => exact ⟨h.1, ih h.2⟩
theorem lmay_snoc {l : List JV} {x : JV} (h : lmay l) (hx : jmay x) : lmay (l ++ [x]) := by
  induction l with
  | nil => exact ⟨hx, trivial⟩
  | cons a l ih => exact ⟨h.1, ih h.2⟩
theorem jfind_none {m : List (ByteArray × JV)} {key : ByteArray} (h : jfind (mkO m) key = none) : ∀ q ∈ m, ¬ q.1 = key := fun q hq e => by
  have h' : (m.find? fun q => decide (q.1 = key)) = none := by
    unfold jfind at h
    rw [if_pos (show (mkO m).kind = 5 from rfl)] at h
    simpa [mkO, JV.m] using h
  have := List.find?_eq_none.1 h' q hq
  simp [e] at this
/-- What a value's reading comes to. -/
structure VR (s : ByteArray) (r : RS) (x : JV × RS) : Prop where
  fwd : RTo s r x.2
  deep : x.2.deep = r.deep
  jb : jb x.1
  size : jsize x.1 ≤ (x.2.a : Int) - r.a + 1
  may : x.2.bad = 0 → jmay x.1
section
variable {rv : RS → JV × RS} {s : ByteArray} (hs : s.size ≤ 100000) (hrv : ∀ r, ROK s r → VR s r (rv r))
include hrv
theorem rarrF_ok : ∀ (k : Nat) (l : List JV) (r : RS), ROK s r → lb l → (r.bad = 0 → lmay l) →
    RTo s r (rarrF rv s k l r).2 ∧ (rarrF rv s k l r).2.deep = r.deep ∧ lb (rarrF rv s k l r).1 ∧ lsize (rarrF rv s k l r).1 ≤ lsize l + ((rarrF rv s k l r).2.a : Int) - r.a + 1 ∧ ((rarrF rv s k l r).2.bad = 0 → lmay (rarrF rv s k l r).1) := by
  intro k
  induction k with
  | zero => intro l r h h1 h2; exact ⟨.refl h, rfl, h1, by dsimp only [rarrF]; omega, h2⟩
  | succ k ih =>
    intro l r h h1 h2
    rw [rarrF]
    have hv := hrv r h
    split
    · split
      · rename_i hp
        have hi := rinc_to hv.fwd.ok (by omega)
        obtain ⟨q1, q2, q3, q4, q5⟩ := ih (l ++ [(rv r).1]) (rinc (rv r).2) hi.ok (lb_snoc h1 hv.jb) (fun e => lmay_snoc (h2 (hv.fwd.b e)) (hv.may e))
        refine ⟨hv.fwd.trans (hi.trans q1), q2.trans hv.deep, q3, ?_, q5⟩
        rw [lsize_snoc] at q4
        have := hv.size
        have h5 : (rinc (rv r).2).a = (rv r).2.a + 1 := rfl
        omega
      · refine ⟨hv.fwd, hv.deep, lb_snoc h1 hv.jb, ?_, fun e => lmay_snoc (h2 (hv.fwd.b e)) (hv.may e)⟩
        rw [lsize_snoc]; have := hv.size; dsimp only; omega
    · exact ⟨.refl h, rfl, h1, by dsimp only; omega, h2⟩
include hs
theorem rarr_ok {r : RS} (h : ROK s r) (hb : r.bad = 0) (ha : r.a < s.size) : VR s r (rarr rv s r) := by
  obtain ⟨o1, o2, o3⟩ := ropen_to h hb ha
  obtain ⟨q1, q2, q3, q4, q5⟩ := rarrF_ok hrv (s.size + 2) [] (ropen s r) o1.ok trivial (fun _ => trivial)
  obtain ⟨w1, w2⟩ := rwant_to (lit := rb1) q1.ok
  unfold rarr
  have hll := llen_le (rarrF rv s (s.size + 2) [] (ropen s r)).1
  have e0l : lsize [] = 0 := rfl
  have ha1 := w1.ok.a; have ha2 := w1.a
  have hd := h.d0; have hd1 := h.d1
  refine ⟨⟨?_, ⟨ha1, w1.ok.b, ?_, ?_⟩, fun e => o1.b (q1.b (w1.b e))⟩, ?_, ?_, ?_, fun e => may_l (q5 (w1.b e))⟩
  · have := q1.a; dsimp only [rdec]; omega
  · dsimp only [rdec]; omega
  · have := w1.ok.d1; dsimp only [rdec]; omega
  · dsimp only [rdec]; omega
  · rw [jb_eq]; simp only [JV.n, JV.s, JV.l, JV.m, mb, and_true]
    exact ⟨Nat.zero_le _, Nat.zero_le _, by omega, Nat.zero_le _, q3⟩
  · simp only [jsize, msize, rdec]; omega
omit hs in
theorem rkey_ok {m : List (ByteArray × JV)} {r : RS} (h : ROK s r) : RTo s r (rkey s m r).2 ∧ (rkey s m r).2.deep = r.deep ∧ (rkey s m r).1.size + r.a ≤ (rkey s m r).2.a ∧ Utf (rkey s m r).1 ∧ ((rkey s m r).2.bad = 0 → ∀ q ∈ m, ¬ q.1 = (rkey s m r).1) := by
  have b1 := rblank_to h
  obtain ⟨t1, t2, t3, t4⟩ := rtext_to b1.ok
  have hb1 := b1.a
  unfold rkey rk2
  by_cases hf : (jfind (mkO m) (rtext s (rblank s r)).1).isSome = true
  · simp only [if_pos hf]
    have f1 := rfail_to (a := (rblank s r).a) (b := 4) t1.ok (by decide)
    have b2 := rblank_to f1.ok
    obtain ⟨w1, w2⟩ := rwant_to (lit := rb3) b2.ok
    refine ⟨b1.trans (t1.trans (f1.trans (b2.trans w1))), w2.trans t2, ?_, t3, fun e => absurd (b2.b (w1.b e)) (rfail_bad (by decide))⟩
    have := w1.a; have := b2.a; have := f1.a; omega
  · simp only [if_neg hf]
    have b2 := rblank_to t1.ok
    obtain ⟨w1, w2⟩ := rwant_to (lit := rb3) b2.ok
    refine ⟨b1.trans (t1.trans (b2.trans w1)), w2.trans t2, ?_, t3, fun _ => jfind_none (by simpa using hf)⟩
    have := w1.a; have := b2.a; omega
omit hs hrv in
theorem rk2_ok {m : List (ByteArray × JV)} {r : RS} (h : ROK s r) : RTo s r (rk2 s m r) ∧ (rk2 s m r).deep = r.deep := by
  have b1 := rblank_to h
  obtain ⟨t1, t2, t3, t4⟩ := rtext_to b1.ok
  unfold rk2
  split
  · exact ⟨b1.trans (t1.trans (rfail_to t1.ok (by decide))), t2⟩
  · exact ⟨b1.trans t1, t2⟩
include hs
theorem robjF_ok : ∀ (k : Nat) (m : List (ByteArray × JV)) (r : RS), ROK s r → mb m → (r.bad = 0 → MOK m) →
    RTo s r (robjF rv s k m r).2 ∧ (robjF rv s k m r).2.deep = r.deep ∧ mb (robjF rv s k m r).1 ∧ msize (robjF rv s k m r).1 ≤ msize m + ((robjF rv s k m r).2.a : Int) - r.a + 1 ∧ ((robjF rv s k m r).2.bad = 0 → MOK (robjF rv s k m r).1) := by
  intro k
  induction k with
  | zero => intro m r h h1 h2; exact ⟨.refl h, rfl, h1, by dsimp only [robjF]; omega, h2⟩
  | succ k ih =>
    intro m r h h1 h2
    rw [robjF]
    obtain ⟨k1, k2, k3, k4, k5⟩ := rkey_ok hrv (m := m) h
    have hv := hrv _ k1.ok
    have hk1 := k1.a; have hk6 := k1.ok.a
    have hins : (rv (rkey s m r).2).2.bad = 0 → MOK (rins m (rkey s m r).1 (rv (rkey s m r).2).1) := fun e => (h2 (k1.b (hv.fwd.b e))).ins k4 (hv.may e) (k5 (hv.fwd.b e))
    split
    · split
      · rename_i hp
        have hi := rinc_to hv.fwd.ok (by omega)
        obtain ⟨q1, q2, q3, q4, q5⟩ := ih (rins m (rkey s m r).1 (rv (rkey s m r).2).1) (rinc (rv (rkey s m r).2).2) hi.ok (mb_ins h1 (by omega) hv.jb) hins
        refine ⟨k1.trans (hv.fwd.trans (hi.trans q1)), q2.trans (hv.deep.trans k2), q3, ?_, q5⟩
        rw [msize_ins] at q4
        have := hv.size
        have h5 : (rinc (rv (rkey s m r).2).2).a = (rv (rkey s m r).2).2.a + 1 := rfl
        omega
      · refine ⟨k1.trans hv.fwd, hv.deep.trans k2, mb_ins h1 (by omega) hv.jb, ?_, hins⟩
        rw [msize_ins]; have := hv.size; dsimp only; omega
    · exact ⟨.refl h, rfl, h1, by dsimp only; omega, h2⟩
theorem robj_ok {r : RS} (h : ROK s r) (hb : r.bad = 0) (ha : r.a < s.size) : VR s r (robj rv s r) := by
  obtain ⟨o1, o2, o3⟩ := ropen_to h hb ha
  obtain ⟨q1, q2, q3, q4, q5⟩ := robjF_ok hs hrv (s.size + 2) [] (ropen s r) o1.ok trivial (fun _ => ⟨fun q hq => by simp at hq, List.Pairwise.nil⟩)
  obtain ⟨w1, w2⟩ := rwant_to (lit := rb2) q1.ok
  unfold robj
  have hll := mlen_le (robjF rv s (s.size + 2) [] (ropen s r)).1
  have e0l : msize [] = 0 := rfl
  have ha1 := w1.ok.a; have ha2 := w1.a
  have hd := h.d0; have hd1 := h.d1
  refine ⟨⟨?_, ⟨ha1, w1.ok.b, ?_, ?_⟩, fun e => o1.b (q1.b (w1.b e))⟩, ?_, ?_, ?_, fun e => may_m (q5 (w1.b e))⟩
  · have := q1.a; dsimp only [rdec]; omega
  · dsimp only [rdec]; omega
  · have := w1.ok.d1; dsimp only [rdec]; omega
  · dsimp only [rdec]; omega
  · rw [jb_eq]; simp only [mkO, JV.n, JV.s, JV.l, JV.m, lb, true_and]
    exact ⟨Nat.zero_le _, Nat.zero_le _, Nat.zero_le _, by omega, q3⟩
  · simp only [mkO, jsize, lsize, rdec]; omega
theorem rnumv_ok {r : RS} (h : ROK s r) (hb : r.bad = 0) (ha : r.a < s.size) : VR s r (rnumv s r) := by
  have he := rEnd_le (s := s) (a := r.a) (by omega)
  have hm := rNum_may (s.extract r.a (rEnd s r.a).1)
  have h3 := h.d1; have h0 := h.d0
  unfold rnumv
  refine ⟨⟨he.1, ⟨by dsimp only; omega, fun _ => he.2, h0, by dsimp only; omega⟩, fun _ => hb⟩, rfl, ?_, ?_, fun _ => may_n hm⟩
  · exact jb_nil _ _ _ _ (by have := hm.size; omega) (Nat.zero_le _)
  · simp only [jsize_nil]; omega
theorem rone_ok {r : RS} (h : ROK s r) : VR s r (rone rv s r) := by
  have hz : ∀ {r' : RS} {v : JV}, RTo s r r' → r'.deep = r.deep → jsize v = 1 → jb v → jmay v → VR s r (v, r') := fun h1 h2 h3 h4 h5 => ⟨h1, h2, h4, by have := h1.a; dsimp only; omega, fun _ => h5⟩
  have h0 : jb vz := jb_nil _ _ _ _ (Nat.zero_le _) (Nat.zero_le _)
  unfold rone
  split
  · rename_i hp; have := pk_yes (s := s) (a := r.a) (bad := r.bad) (by omega); exact robj_ok hs hrv h this.1 this.2.1
  split
  · rename_i hp; have := pk_yes (s := s) (a := r.a) (bad := r.bad) (by omega); exact rarr_ok hs hrv h this.1 this.2.1
  split
  · obtain ⟨t1, t2, t3, t4⟩ := rtext_to h
    exact hz t1 t2 (jsize_nil _ _ _ _) (jb_nil _ _ _ _ (Nat.zero_le _) (by have := t1.ok.a; omega)) (may_s t3)
  split
  · exact hz (rwant_to h).1 (rwant_to h).2 (jsize_nil _ _ _ _) h0 vz_may
  split
  · exact hz (rwant_to h).1 (rwant_to h).2 (jsize_nil _ _ _ _) (jb_nil _ _ _ _ (Nat.zero_le _) (Nat.zero_le _)) (may_b true)
  split
  · exact hz (rwant_to h).1 (rwant_to h).2 (jsize_nil _ _ _ _) (jb_nil _ _ _ _ (Nat.zero_le _) (Nat.zero_le _)) (may_b false)
  split
  · rename_i hp; have := pk_yes (s := s) (a := r.a) (bad := r.bad) (by omega); exact rnumv_ok hs hrv h this.1 this.2.1
  · exact hz (rfail_to h (by decide)) rfl (jsize_nil _ _ _ _) h0 vz_may
end
theorem rval_ok {s : ByteArray} (hs : s.size ≤ 100000) : ∀ (n : Nat) (r : RS), ROK s r → VR s r (rval n s r) := by
  intro n
  induction n with
  | zero => intro r h; exact ⟨.refl h, rfl, jb_nil _ _ _ _ (Nat.zero_le _) (Nat.zero_le _), by simp only [rval, vz, jsize_nil]; omega, fun _ => vz_may⟩
  | succ n ih =>
    intro r h
    have b1 := rblank_to h
    have hv := rone_ok hs ih b1.ok
    have b2 := rblank_to hv.fwd.ok
    rw [rval]
    exact ⟨b1.trans (hv.fwd.trans b2), hv.deep, hv.jb, by have := hv.size; have := b1.a; have := b2.a; dsimp only; omega, fun e => hv.may (b2.b e)⟩
/-- What a text's reading comes to. -/
theorem rParse_ok (s : ByteArray) (h : (rParse s).2.1 = 0) : jmay (rParse s).1 ∧ jb (rParse s).1 ∧ jsize (rParse s).1 ≤ s.size + 2 ∧ s.size ≤ 20000 := by
  unfold rParse at h ⊢
  split at h
  · cases h
  · rename_i hs
    split at h
    · rename_i hb
      rw [if_neg hs, if_pos hb]
      have h0 : ROK s ⟨0, 0, 0, 0⟩ := ⟨Nat.zero_le _, fun _ => Nat.zero_le _, Int.le_refl _, Int.le_refl _⟩
      have hv : VR s ⟨0, 0, 0, 0⟩ (rpar s) := rval_ok (by omega) (s.size + 2) ⟨0, 0, 0, 0⟩ h0
      have hb2 : (rpar s).2.bad = 0 := by
        unfold rparE at hb
        split at hb
        · exact absurd hb (rfail_bad (by decide))
        · exact hb
      exact ⟨hv.may hb2, hv.jb, by have := hv.size; have := hv.fwd.ok.a; dsimp only at *; omega, by omega⟩
    · rename_i hb; exact absurd h hb
/-- What a law takes for a text's value. -/
noncomputable def rValue (s : ByteArray) : JV × Int := if 2000 < s.size then (vz, 0) else if (rParse s).2.1 = 0 then ((rParse s).1, 1) else (vz, 0)
theorem rValue_ok (s : ByteArray) : (rValue s).2 = 0 ∧ (rValue s).1 = vz ∨ (rValue s).2 = 1 ∧ jmay (rValue s).1 ∧ jb (rValue s).1 ∧ jsize (rValue s).1 ≤ 2002 := by
  unfold rValue
  split
  · exact .inl ⟨rfl, rfl⟩
  split
  · rename_i h1 h2
    have := rParse_ok s h2
    exact .inr ⟨rfl, this.1, this.2.1, by have := this.2.2.1; dsimp only; omega⟩
  · exact .inl ⟨rfl, rfl⟩
end Lg
namespace Lg
open Go
variable [GLay]
/-! ### Members as cells -/
def mrow (q : ByteArray × JV) : List AV := .str q.1 :: vcells q.2
theorem mcells_map (m : List (ByteArray × JV)) : mcells m = m.map mrow := mcells_eq m
theorem mrow_len (q : ByteArray × JV) : (mrow q).length = 9 := by simp [mrow, vlen]
theorem mrows_len (m : List (ByteArray × JV)) : ∀ r ∈ mcells m, r.length = 9 := fun r hr => by
  rw [mcells_map] at hr
  obtain ⟨v, _, rfl⟩ := List.mem_map.1 hr
  exact mrow_len v
theorem mflat_len (m : List (ByteArray × JV)) : (mcells m).flatten.length = m.length * 9 := by
  induction m with
  | nil => simp [mcells]
  | cons a m ih => obtain ⟨k, v⟩ := a; simp only [mcells, List.flatten_cons, List.length_append, ih, List.length_cons, vlen]; omega
theorem vones (v : JV) : ones (vcells v) = true := by rw [vcells_eq]; rfl
theorem mones (m : List (ByteArray × JV)) : ones (mcells m).flatten = true := by
  induction m with
  | nil => simp [mcells, ones]
  | cons a m ih =>
    obtain ⟨k, v⟩ := a
    simp only [mcells, List.flatten_cons, ones_append, ih, Bool.and_true, ones, vones]; rfl
theorem mflat_lt (n : Nat) (m : List (ByteArray × JV)) : AV.ltL n (mcells m).flatten := by
  induction m with
  | nil => simp [mcells, AV.ltL]
  | cons a m ih => obtain ⟨k, v⟩ := a; simp only [mcells, List.flatten_cons, ltL_append, AV.ltL, AV.lt, true_and]; exact ⟨vcells_lt n v, ih⟩
theorem mslice_lo' (m : List (ByteArray × JV)) (j : Nat) : ((mcells m).drop j).take ((mcells m).length - j) = mcells (m.drop j) := by
  rw [List.take_of_length_le (by simp), mcells_map, mcells_map, List.map_drop]
theorem mslice_hi (m : List (ByteArray × JV)) (j : Nat) : ((mcells m).drop (0 : Int).toNat).take (j - (0 : Int).toNat) = mcells (m.take j) := by
  show ((mcells m).drop 0).take (j - 0) = _
  rw [List.drop_zero, Nat.sub_zero, mcells_map, mcells_map, List.map_take]
theorem mflat_ins (m : List (ByteArray × JV)) (key : ByteArray) (v : JV) : (mcells (rins m key v)).flatten = (mcells (m.take (rinsK m key))).flatten ++ (mrow (key, v) ++ (mcells (m.drop (rinsK m key))).flatten) := by
  unfold rins
  rw [mcells_map, mcells_map, mcells_map]; simp
theorem rinsK_le (m : List (ByteArray × JV)) (key : ByteArray) : rinsK m key ≤ m.length := by
  unfold rinsK
  exact (List.takeWhile_sublist _).length_le
theorem rins_len (m : List (ByteArray × JV)) (key : ByteArray) (v : JV) : (rins m key v).length = m.length + 1 := by
  have := rinsK_le m key
  unfold rins; simp; omega
theorem rinsK_yes {m : List (ByteArray × JV)} {key : ByteArray} {j : Nat} {q : ByteArray × JV} (hq : m[j]? = some q) (h : blt q.1 key = true) : rinsK (m.drop j) key = 1 + rinsK (m.drop (j + 1)) key := by
  obtain ⟨hj, rfl⟩ := List.getElem?_eq_some_iff.1 hq
  rw [List.drop_eq_getElem_cons hj]
  unfold rinsK
  simp only [List.takeWhile_cons, h, if_true, List.length_cons]; omega
theorem rinsK_no {m : List (ByteArray × JV)} {key : ByteArray} {j : Nat} {q : ByteArray × JV} (hq : m[j]? = some q) (h : blt q.1 key = false) : rinsK (m.drop j) key = 0 := by
  obtain ⟨hj, rfl⟩ := List.getElem?_eq_some_iff.1 hq
  rw [List.drop_eq_getElem_cons hj]
  unfold rinsK
  simp only [List.takeWhile_cons, h, Bool.false_eq_true, if_false, List.length_nil]
theorem rinsK_end {m : List (ByteArray × JV)} {key : ByteArray} {j : Nat} (h : m.length ≤ j) : rinsK (m.drop j) key = 0 := by
  rw [List.drop_eq_nil_of_le h]; rfl
end Lg
namespace Lg
open Go
/-! ### The reference's reader, to be run by the kernel -/
def rnumvC (s : ByteArray) (r : RS) : JV × RS :=
  (.mk 2 false (pNum (s.extract r.a (rEnd s r.a).1).data.toList).1 e0 [] [],
   ⟨(rEnd s r.a).1, r.deep, (if (pNum (s.extract r.a (rEnd s r.a).1).data.toList).2 = 0 then (if (rEnd s r.a).2 = true then r else rfail r (rEnd s r.a).1 1) else rfail (if (rEnd s r.a).2 = true then r else rfail r (rEnd s r.a).1 1) r.a 5).bad,
    (if (pNum (s.extract r.a (rEnd s r.a).1).data.toList).2 = 0 then (if (rEnd s r.a).2 = true then r else rfail r (rEnd s r.a).1 1) else rfail (if (rEnd s r.a).2 = true then r else rfail r (rEnd s r.a).1 1) r.a 5).spot⟩)
theorem rnumv_C {s : ByteArray} (hs : s.size ≤ 1000) (r : RS) : rnumv s r = rnumvC s r := by
  unfold rnumv rnumvC
  rw [rNum_pNum _ (by rw [ByteArray.size_extract]; omega)]
/-- What a byte begins. -/
def roneC (rv : RS → JV × RS) (s : ByteArray) (r : RS) : JV × RS :=
  if pkv s r.a r.bad = 123 then robj rv s r else
  if pkv s r.a r.bad = 91 then rarr rv s r else
  if pkv s r.a r.bad = 34 then (.mk 3 false {} (rtext s r).1 [] [], (rtext s r).2) else
  if pkv s r.a r.bad = 110 then (vz, rwant s lNull r) else
  if pkv s r.a r.bad = 116 then (.mk 1 true {} e0 [] [], rwant s lTrue r) else
  if pkv s r.a r.bad = 102 then (.mk 1 false {} e0 [] [], rwant s lFalse r) else
  if pkv s r.a r.bad = 45 ∨ (48 ≤ pkv s r.a r.bad ∧ pkv s r.a r.bad ≤ 57) then rnumvC s r else (vz, rfail r r.a 1)
def rvalC : Nat → ByteArray → RS → JV × RS
  | 0, s, r => (vz, r)
  | n + 1, s, r => ((roneC (rvalC n s) s (rblank s r)).1, rblank s (roneC (rvalC n s) s (rblank s r)).2)
theorem rval_C {s : ByteArray} (hs : s.size ≤ 1000) : ∀ n, rval n s = rvalC n s
  | 0 => rfl
  | n + 1 => by
    funext r
    have ih := rval_C hs n
    unfold rval rvalC
    rw [ih]
    have e : ∀ r, rone (rvalC n s) s r = roneC (rvalC n s) s r := fun r => by unfold rone roneC; rw [rnumv_C hs]
    rw [e]
def rparC (s : ByteArray) : JV × RS := rvalC (s.size + 2) s ⟨0, 0, 0, 0⟩
def rparEC (s : ByteArray) : RS := if (rparC s).2.bad = 0 ∧ (rparC s).2.a < s.size then rfail (rparC s).2 (rparC s).2.a 1 else (rparC s).2
def rParseC (s : ByteArray) : JV × Int × Int :=
  if 20000 < s.size then (vz, 5, 20000) else if (rparEC s).bad = 0 then ((rparC s).1, 0, 0) else (vz, (rparEC s).bad, (rparEC s).spot)
theorem rParse_C {s : ByteArray} (hs : s.size ≤ 1000) : rParse s = rParseC s := by
  have e : rpar s = rparC s := by unfold rpar rparC; rw [rval_C hs]
  unfold rParse rParseC rparE rparEC; rw [e]
end Lg
namespace Lg
open Go
theorem ljw_ne {l : List JV} {i : Nat} (c : UInt8) (h : i < l.length) (h0 : i ≠ 0) : ljw c (l.take i) ≠ [] := by
  cases l with
  | nil => simp at h
  | cons a r => obtain ⟨i, rfl⟩ : ∃ j, i = j + 1 := ⟨i - 1, by omega⟩; simp [ljw]
theorem mjw_ne {l : List (ByteArray × JV)} {i : Nat} (c : UInt8) (h : i < l.length) (h0 : i ≠ 0) : mjw c (l.take i) ≠ [] := by
  cases l with
  | nil => simp at h
  | cons a r => obtain ⟨i, rfl⟩ : ∃ j, i = j + 1 := ⟨i - 1, by omega⟩; obtain ⟨k, y⟩ := a; simp [mjw]
theorem tail_app {a b : BL} (h : a ≠ []) : (a ++ b).tail = a.tail ++ b := by cases a with
  | nil => exact absurd rfl h
  | cons => rfl
theorem ljw_tail {l : List JV} {i : Nat} {x : JV} (h : l[i]? = some x) : (ljw 44 (l.take (i + 1))).tail = (if i = 0 then [] else (ljw 44 (l.take i)).tail ++ [44]) ++ jtx x := by
  have hi := (List.getElem?_eq_some_iff.1 h).1
  rw [ljw_take 44 h]
  split
  · rename_i h0; subst h0; simp [ljw]
  · rename_i h0; rw [tail_app (ljw_ne 44 hi h0)]; simp
theorem mjw_tail {l : List (ByteArray × JV)} {i : Nat} {x : ByteArray × JV} (h : l[i]? = some x) : (mjw 44 (l.take (i + 1))).tail = (if i = 0 then [] else (mjw 44 (l.take i)).tail ++ [44]) ++ (quoteL x.1.data.toList ++ 58 :: jtx x.2) := by
  have hi := (List.getElem?_eq_some_iff.1 h).1
  rw [mjw_take 44 h]
  split
  · rename_i h0; subst h0; simp [mjw]
  · rename_i h0; rw [tail_app (mjw_ne 44 hi h0)]; simp
theorem jtx_4 {v : JV} (h : v.kind = 4) : jtx v = 91 :: ((ljw 44 v.l).tail ++ [93]) := by
  rw [jtx_eq, if_neg (by omega), if_neg (by omega), if_neg (by omega), if_pos h, ljw_head]
  split
  · rename_i h0; rw [List.length_eq_zero_iff.1 h0]; rfl
  · rfl
theorem jtx_5 {v : JV} (h : v.kind = 5) : jtx v = 123 :: ((mjw 44 v.m).tail ++ [125]) := by
  rw [jtx_eq, if_neg (by omega), if_neg (by omega), if_neg (by omega), if_neg (by omega), if_pos h, mjw_head]
  split
  · rename_i h0; rw [List.length_eq_zero_iff.1 h0]; rfl
  · rfl
def ex5 : ByteArray := ⟨#[123, 34, 98, 34, 58, 49, 46, 48, 44, 32, 34, 97, 34, 58, 91, 93, 125]⟩
theorem vz_jb : jb vz ∧ jkb vz := by
  constructor
  · exact ⟨Nat.zero_le _, Nat.zero_le _, Nat.zero_le _, Nat.zero_le _, trivial, trivial⟩
  · exact ⟨by decide, by decide, ⟨by decide, by decide⟩, trivial, trivial⟩
end Lg
namespace Lg
open Go Go.RowKit
variable [GLay]
/-! ### Maps of the call's own -/
variable {P : Program} {σ l : List AO} {e : Env} {o : Oper} {p : Nat} {x : AO}
/-! ### Keys that are strings -/
theorem ba_eqq (a b : ByteArray) : (a == b) = decide (a = b) := by
  obtain ⟨a⟩ := a
  obtain ⟨b⟩ := b
  show (a == b) = _
  by_cases h : a = b
  · subst h; simp
  · have : ¬ (ByteArray.mk a = ByteArray.mk b) := fun e => h (by injection e)
    simp [h, this]
def smap (m : List (ByteArray × AV)) : List (AV × AV) := m.map fun q => (.str q.1, q.2)
def mget : List (ByteArray × AV) → ByteArray → Option (Nat × AV)
  | [], _ => none
  | (x, v) :: r, k => if k = x then some (0, v) else (mget r k).map fun z => (z.1 + 1, z.2)
instance : LawfulBEq ByteArray where
  eq_of_beq {a b} h := by rw [ba_eqq] at h; exact of_decide_eq_true h
  rfl {a} := by rw [ba_eqq]; exact decide_eq_true rfl
section
variable {T K E : TypeId} {a b c : Operand} {m : List (ByteArray × AV)} {k : ByteArray} {z : Value}
end
end Lg
namespace Lg
open Go
/-! ### Keywords -/
def kwL : List (ByteArray × Nat) := [
 (⟨#[116, 121, 112, 101]⟩, 1),
 (⟨#[101, 110, 117, 109]⟩, 2),
 (⟨#[99, 111, 110, 115, 116]⟩, 3),
 (⟨#[109, 105, 110, 105, 109, 117, 109]⟩, 4),
 (⟨#[109, 97, 120, 105, 109, 117, 109]⟩, 4),
 (⟨#[109, 105, 110, 76, 101, 110, 103, 116, 104]⟩, 5),
 (⟨#[109, 97, 120, 76, 101, 110, 103, 116, 104]⟩, 5),
 (⟨#[109, 105, 110, 73, 116, 101, 109, 115]⟩, 5),
 (⟨#[109, 97, 120, 73, 116, 101, 109, 115]⟩, 5),
 (⟨#[117, 110, 105, 113, 117, 101, 73, 116, 101, 109, 115]⟩, 6),
 (⟨#[114, 101, 113, 117, 105, 114, 101, 100]⟩, 7),
 (⟨#[105, 116, 101, 109, 115]⟩, 8),
 (⟨#[97, 100, 100, 105, 116, 105, 111, 110, 97, 108, 80, 114, 111, 112, 101, 114, 116, 105, 101, 115]⟩, 8),
 (⟨#[110, 111, 116]⟩, 8),
 (⟨#[112, 114, 111, 112, 101, 114, 116, 105, 101, 115]⟩, 9),
 (⟨#[36, 100, 101, 102, 115]⟩, 9),
 (⟨#[97, 108, 108, 79, 102]⟩, 10),
 (⟨#[97, 110, 121, 79, 102]⟩, 10),
 (⟨#[111, 110, 101, 79, 102]⟩, 10),
 (⟨#[36, 114, 101, 102]⟩, 11)]
/-- Which kind of keyword a name is; 0: none. -/
def rk (n : ByteArray) : Nat := ((kwL.find? fun q => decide (n = q.1)).map (·.2)).getD 0
def schB (v : JV) : Bool := decide (v.kind = 1) || decide (v.kind = 5)
def tyL : List ByteArray := [⟨#[110, 117, 108, 108]⟩, ⟨#[98, 111, 111, 108, 101, 97, 110]⟩, ⟨#[110, 117, 109, 98, 101, 114]⟩, ⟨#[105, 110, 116, 101, 103, 101, 114]⟩, ⟨#[115, 116, 114, 105, 110, 103]⟩, ⟨#[97, 114, 114, 97, 121]⟩, ⟨#[111, 98, 106, 101, 99, 116]⟩]
def tyB (v : JV) : Bool := decide (v.kind = 3) && tyL.any (fun t => decide (v.s = t))
/-- All are texts, no two the same. -/
def txI (l : List JV) (i : Nat) : Prop := ∀ (a : Nat) x, a < i → l[a]? = some x → x.kind = 3 ∧ ∀ (b : Nat) y, b < a → l[b]? = some y → ¬ x.s = y.s
noncomputable def txB (v : JV) : Bool := pb (txI v.l v.l.length) && decide (v.kind = 4)
noncomputable def kOK (c : Nat) (v : JV) : Bool := match c with
  | 1 => tyB v || (txB v && decide (0 < v.l.length) && v.l.all tyB)
  | 2 => decide (v.kind = 4) && decide (0 < v.l.length)
  | 3 => true
  | 4 => decide (v.kind = 2)
  | 5 => decide (v.kind = 2) && rWhole v.n && !v.n.neg
  | 6 => decide (v.kind = 1)
  | 7 => txB v
  | 8 => schB v
  | 9 => decide (v.kind = 5) && v.m.all (fun q => schB q.2)
  | 10 => decide (v.kind = 4) && decide (0 < v.l.length) && v.l.all schB
  | 11 => decide (v.kind = 3)
  | _ => false
/-- What a name tells of a value: 0: it may have it. -/
noncomputable def rShape (n : ByteArray) (v : JV) : Int := if rk n = 0 then 10 else if kOK (rk n) v = true then 0 else 11
/-- The schemas in it. -/
def kidsM (n : ByteArray) (v : JV) : List (ByteArray × JV) :=
  if rk n = 8 then [(e0, v)] else if rk n = 9 then v.m else if rk n = 10 then v.l.zipIdx.map (fun q => (itoaB q.2, q.1)) else []
end Lg
namespace Lg
open Go Go.RowKit
section
variable [GLay]
variable {P : Program} {N : Nat} {σ l : List AO} {e : Env} {Q : QA} {o : Oper}
/-- A slot's value, taken for something as good. -/
theorem AWp_slotLe {c : Code} (t : Nat) {v w : AV} (hl : lookO e.l t = some v) (hle : AVle v w) (k : AWp P N c (e.put (some t) w) σ Q) (ht : t < N) : AWp P N c e σ Q := fun s0 s a hs g x he => by
  subst hs
  have hv := he.tmps t
  rw [show e.look t = v from lookO_eq hl] at hv
  exact k s0 s a rfl g x (by
    have h1 := he.put (some t) (hle _ _ hv) (fun d hd => by cases hd; exact ht)
    have h2 : a.put (some t) (a.eval (.tmp t)) = a := put_self (by rw [he.size]; exact ht)
    rwa [h2] at h1)
/-- A nil slice in a slot becomes a slice of an array of no block. -/
theorem AWp_ghostT {c : Code} (t sz : Nat) (hl : lookO e.l t = some .nils) (k : AWp P N c (e.put (some t) (.arr σ.length 0 sz 0 0)) (σ ++ [AO.arr sz 0 []]) Q) (ht : t < N) : AWp P N c e σ Q := fun s0 s a hs g x he => by
  subst hs
  obtain ⟨s1, e1, e2, g1, x1⟩ := g.ghost sz
  have hv := (he.mono g x1).tmps t
  rw [show e.look t = .nils from lookO_eq hl] at hv
  have hv0 := hv.inv_nils
  have hv' : V s1 (.arr s.σ.length 0 sz 0 0) (a.eval (.tmp t)) := by
    rw [hv0]; exact .arr _ _ _ _ _ _ rfl (.mk (cs := []) (by rw [e1]; simp) ⟨rfl, .inl ⟨none, rfl, rfl⟩⟩)
  have := k s0 s1 a e1 g1 (x.trans x1) (by
    have h1 := (he.mono g x1).put (some t) hv' (fun d hd => by cases hd; exact ht)
    have h2 : a.put (some t) (a.eval (.tmp t)) = a := put_self (by rw [he.size]; exact ht)
    rwa [h2] at h1)
  rwa [e2] at this
/-- A slice asked whether it is nil: an empty one may be, or may not. -/
theorem op_eqSlR {T T' E : TypeId} {x : Operand} {f : Bool} {sz : Nat} {es : List (List AV)} (ho : o.op = .binOp .eql T x (.const (.slice none 0 0)) T') (hu : P.underlying T = some (.slice E)) (hx : opO e x = some (.sl f sz es)) :
    AOpR P σ e o (fun v σ' => σ' = σ ∧ ∃ b, v = .bool b ∧ (b = true → es = [])) (fun _ _ => False) := fun s a hs g hv K Q hk hq => by
  have h1 := opO_eq hx ▸ hv x (by simp [ho, Op.operands])
  obtain ⟨ad, len, cap, hc, hn⟩ : ∃ ad len cap, a.eval x = .slice ad len cap ∧ (ad = none → es = []) := by
    rcases h1.inv_sl with ⟨ad, h, he⟩ | ⟨b, off, cap, vs, h, _⟩
    · exact ⟨ad, 0, 0, h, fun _ => he⟩
    · exact ⟨_, _, _, h, fun h => by cases h⟩
  have he : ∀ d, (Go.Op.equalIn (d + 1) T (.slice ad len cap) (.slice none 0 0)).run P s.w = .ok ad.isNone s.w := fun d => by cases ad <;> simp [Go.Op.equalIn, run_underlying hu]
  have he' : (Go.Op.equal T (.slice ad len cap) (.slice none 0 0)).run P s.w = .ok ad.isNone s.w := he 9999
  have hb : (binOp .eql T (.slice ad len cap) (.slice none 0 0)).run P s.w = .ok (.bool ad.isNone) s.w := by
    simp only [binOp]; simp [he']
  have hg : (eqGuard .eql T x (.const (.slice none 0 0)) (.slice ad len cap) (.slice none 0 0)).run P s.w = .ok () s.w := by
    simp [eqGuard]
  have hrun : (execOp a.eval o).run P s.w = .ok (.value (.bool ad.isNone)) s.w := by
    have hc2 : a.eval (.const (.slice none 0 0)) = .slice none 0 0 := rfl
    simp [execOp, ho, hc, hc2, hb, hg]
  exact wp_value hrun (hk (.bool ad.isNone) _ s ⟨hs, _, rfl, fun h => hn (by simpa using h)⟩ g (Ext.refl s) (.bool _))
end
/-! ### Kids -/
def kZ (l : List JV) : List (ByteArray × JV) := l.zipIdx.map fun q => (itoaB q.2, q.1)
end Lg
namespace Lg
open Go Go.RowKit
section
variable [GLay] {P : Program} {N : Nat} {σ l : List AO} {e : Env} {Q : QA} {o : Oper}
/-- A place of an array of the call's own. -/
theorem op_indexAddrA {T E : TypeId} {x y : Operand} {sz p gg len : Nat} {k : IntKind} {n : Int} {cs : List AV} (ho : o.op = .indexAddr T x y) (hu : P.underlying T = some (.slice E))
    (hsz : ∀ w, (Go.sizeOf E).run P w = Result.ok sz w) (hx : opO e x = some (.arr p gg sz 0 len)) (hy : opO e y = some (.int k n)) (h0 : 0 ≤ n) (hlt : n < len) (hσ : σ[p]? = some (.arr sz gg cs)) : AOp P σ e o (.pel p gg (n.toNat * sz)) σ :=
  .of_run fun s a hs g hv => by
    subst hs
    have h1 := opO_eq hx ▸ hv x (by simp [ho, Op.operands])
    have h2 := (opO_eq hy ▸ hv y (by simp [ho, Op.operands])).inv_int
    rcases h1.inv_arr hσ with ⟨_, ⟨ad, h3, h4⟩ | ⟨cap, h3, h4, h5⟩⟩
    · omega
    · refine ⟨_, by simp only [execOp, ho, h3, h2, Sem.run_bind]; rw [run_indexAt_slice (cap := cap) hu hsz h0 hlt]; rfl, ?_⟩
      refine .pel _ _ _ _ rfl ?_
      unfold ArrAt
      rw [hσ]
      exact ⟨Nat.le_refl _, fun _ => by simp⟩
theorem op_indexAddrAO {T E : TypeId} {x y : Operand} {sz j gg len : Nat} {k : IntKind} {n : Int} {cs : List AV} (ho : o.op = .indexAddr T x y) (hu : P.underlying T = some (.slice E))
    (hsz : ∀ w, (Go.sizeOf E).run P w = Result.ok sz w) (hx : opO e x = some (.arr (σ.length + j) gg sz 0 len)) (hy : opO e y = some (.int k n)) (h0 : 0 ≤ n) (hlt : n < len) (hl : l[j]? = some (.arr sz gg cs)) : AOp P (σ ++ l) e o (.pel (σ.length + j) gg (n.toNat * sz)) (σ ++ l) :=
  op_indexAddrA ho hu hsz hx hy h0 hlt (by rw [get_own]; exact hl)
theorem AWp_freezeAO {c : Code} (t k gg sz n : Nat) (es : List (List AV)) (hl : lookO e.l t = some (.arr (σ.length + k) gg sz 0 n)) (hk : l[k]? = some (.arr sz gg es.flatten)) (hel : ∀ r ∈ es, r.length = sz) (hn : es.length = n) (hsz : sz ≠ 0) (h : AWp P N c (e.put (some t) (.sl false sz es)) (σ ++ l.set k .dead) Q) (ht : t < N) : AWp P N c e (σ ++ l) Q := by
  have hf : es.flatten.length = n * sz := by rw [flatten_len hel, hn]
  exact AWp_freezeArr t (σ.length + k) gg sz 0 n hl (by rw [get_own]; exact hk) es (by rw [Nat.zero_mul, List.drop_zero, ← hf, List.take_length]) hel hn hsz (by rw [hf, Nat.zero_add]; exact Nat.le_refl _) (by rw [set_own]; exact h) ht
end
/-! ### Rows of texts -/
def srow (l : List BL) : List (List AV) := l.map fun x => [AV.str (ba x)]
theorem srow_len (l : List BL) : (srow l).length = l.length := by simp [srow]
theorem srow_el (l : List BL) : ∀ r ∈ srow l, r.length = 1 := by
  intro r hr; simp [srow] at hr; obtain ⟨x, _, rfl⟩ := hr; rfl
theorem srow_flat (l : List BL) : (srow l).flatten = l.map fun x => AV.str (ba x) := by
  induction l with
  | nil => rfl
  | cons a r ih => show [AV.str (ba a)] ++ (srow r).flatten = _; rw [ih]; rfl
@[simp] theorem srow_lt (m : Nat) (l : List BL) : AV.ltLL m (srow l) := by
  induction l with
  | nil => simp [srow, AV.ltLL]
  | cons a r ih => simpa [srow, AV.ltLL, AV.ltL, AV.lt] using ih
@[simp] theorem smap_lt (m : Nat) (l : List BL) : AV.ltL m (l.map fun x => AV.str (ba x)) := by
  induction l with
  | nil => simp [AV.ltL]
  | cons a r ih => simpa [AV.ltL, AV.lt] using ih
theorem ra1_len (c : UInt8) (nw : BL) (h : nw.length ≤ 2) : ∀ s : BL, (ra [c] nw s).length ≤ 2 * s.length := by
  intro s
  rw [ra_one]
  induction s with
  | nil => simp
  | cons b r ih =>
    rw [List.flatMap_cons, List.length_append, List.length_cons]
    have : (if b = c then nw else [b]).length ≤ 2 := by split <;> simp [h]
    omega
/-! ### What a pointer's text says -/
def tbad (s : BL) (i : Nat) : Bool := decide (s[i]? = some 126) && !(decide (s[i + 1]? = some 48) || decide (s[i + 1]? = some 49))
/-- Where something is amiss. -/
def pE (s : BL) : Option Nat := if s = [] then none else if ¬ s[0]? = some 47 then some 0 else (List.range s.length).find? (tbad s)
def pN (s : BL) : List BL := if s = [] then [] else if (pE s).isSome then [] else (pcs 47 (s.drop 1)).map pune
theorem tbad_no {s : BL} (h : ∀ i, i < s.length → tbad s i = false) : okP s := fun i hi => by
  have := h i (List.getElem?_eq_some_iff.1 hi).1
  unfold tbad at this
  rw [decide_eq_true hi, Bool.true_and] at this
  by_cases h2 : s[i + 1]? = some 48
  · exact .inl h2
  · simp [h2] at this; exact .inr this
theorem pE_none {s : BL} (h0 : ¬ s = []) (h1 : s[0]? = some 47) (h : ∀ i, i < s.length → tbad s i = false) : pE s = none := by
  unfold pE; rw [if_neg h0, if_neg (by simp [h1])]
  exact List.find?_eq_none.2 fun i hi => by simp [h i (List.mem_range.1 hi)]
theorem pE_at {s : BL} (h0 : ¬ s = []) (h1 : s[0]? = some 47) {i : Nat} (hi : i < s.length) (h : tbad s i = true) (hb : ∀ j, j < i → tbad s j = false) : pE s = some i := by
  unfold pE; rw [if_neg h0, if_neg (by simp [h1])]
  exact List.find?_range_eq_some.2 ⟨h, List.mem_range.2 hi, fun j hj => by simp [hb j hj]⟩
theorem pE_ok {s : BL} (h0 : ¬ s = []) (h : pE s = none) : s[0]? = some 47 ∧ okP s := by
  unfold pE at h; rw [if_neg h0] at h
  split at h
  · cases h
  · rename_i h1
    refine ⟨by simpa using h1, tbad_no fun i hi => ?_⟩
    have := List.find?_eq_none.1 h i (List.mem_range.2 hi)
    simpa using this
end Lg
namespace Lg
open Go
theorem get_is {s : BL} {i : Nat} {c : UInt8} (hi : i < s.length) : s[i]? = some c ↔ ((bat (ba s) i).toNat : Int) = c.toNat := by
  rw [bat_ba, List.getElem?_eq_getElem hi, List.getD_eq_getElem?_getD, List.getElem?_eq_getElem hi]
  simp only [Option.getD_some, Option.some.injEq]
  constructor
  · intro h; rw [h]
  · intro h; exact UInt8.toNat_inj.1 (by omega)
theorem g126 {s : BL} {i : Nat} (hi : i < s.length) : s[i]? = some 126 ↔ ((bat (ba s) i).toNat : Int) = 126 := get_is (c := 126) hi
theorem g48 {s : BL} {i : Nat} (hi : i < s.length) : s[i]? = some 48 ↔ ((bat (ba s) i).toNat : Int) = 48 := get_is (c := 48) hi
theorem g49 {s : BL} {i : Nat} (hi : i < s.length) : s[i]? = some 49 ↔ ((bat (ba s) i).toNat : Int) = 49 := get_is (c := 49) hi
theorem g47 {s : BL} {i : Nat} (hi : i < s.length) : s[i]? = some 47 ↔ ((bat (ba s) i).toNat : Int) = 47 := get_is (c := 47) hi
theorem tbad_t {s : BL} {i : Nat} (hi : i < s.length) (h : ((bat (ba s) i).toNat : Int) = 126) (h2 : i + 1 = s.length ∨ (¬ ((bat (ba s) (i + 1)).toNat : Int) = 48 ∧ ¬ ((bat (ba s) (i + 1)).toNat : Int) = 49)) : tbad s i = true := by
  unfold tbad
  rw [decide_eq_true ((g126 hi).2 h), Bool.true_and]
  by_cases hl : i + 1 < s.length
  · obtain ⟨h3, h4⟩ := h2.resolve_left (by omega)
    rw [decide_eq_false (fun e => h3 ((g48 hl).1 e)), decide_eq_false (fun e => h4 ((g49 hl).1 e))]; rfl
  · rw [List.getElem?_eq_none (by omega)]; rfl
/-- The array's cells, i names turned. -/
def pcell (L : List BL) (i : Nat) : List AV := (((L.take i).map pune) ++ L.drop i).map fun x => AV.str (ba x)
@[simp] theorem pcell_lt (m : Nat) (L : List BL) (i : Nat) : AV.ltL m (pcell L i) := smap_lt m _
end Lg
namespace Lg
open Go Go.RowKit
variable [GLay] {P : Program} {N : Nat} {σ l : List AO} {e : Env} {Q : QA} {o : Oper}
theorem spl_set (v : AV) : ∀ (i : Nat) (cs : List AV), i < cs.length → spl i cs [v] = some (cs.set i v)
  | 0, [], h => by simp at h
  | 0, c :: cs, _ => by simp [spl, putAt]
  | i + 1, [], h => by simp at h
  | i + 1, c :: cs, h => by simp [spl, spl_set v i cs (by simpa using h)]
theorem ldv_el {j g sz off i : Nat} {cs : List AV} {v : AV} (hl : l[j]? = some (.arr sz g cs)) (hv : cs[i]? = some v) (ho : off = i) : ldv (σ ++ l) 1 (.pel (σ.length + j) g off) = some [v] := by
  subst ho
  simp only [ldv, get_own, hl, if_true]
  have hi := (List.getElem?_eq_some_iff.1 hv).1
  rw [List.drop_eq_getElem_cons hi, (List.getElem?_eq_some_iff.1 hv).2]
  rfl
theorem op_storeEl {T : TypeId} {x y : Operand} {j g sz off i : Nat} {cs : List AV} {b : ByteArray} (ho : o.op = .store T x y) (hz : ∀ w, (Go.sizeOf T).run P w = Result.ok 1 w) (hy : opO e y = some (.str b)) (hx : opO e x = some (.pel (σ.length + j) g off)) (hoff : off = i)
    (hl : l[j]? = some (.arr sz g cs)) (hi : i < cs.length) : AOp P (σ ++ l) e o .any (σ ++ l.set j (.arr sz g (cs.set i (.str b)))) := by
  subst hoff
  have e1 := opO_eq hy
  have := op_store (P := P) (σ := σ ++ l) (e := e) (p := σ.length + j) (O := .arr sz g (cs.set off (.str b))) ho hz (by rw [e1]; rfl) (by rw [e1]; rfl) (by
    rw [e1, opO_eq hx]
    show stv (σ ++ l) [.str b] (.pel (σ.length + j) g off) = _
    simp only [stv, get_own, hl, if_true, spl_set _ _ _ hi, Option.map_some]) (by decide)
  rwa [set_own] at this
end Lg
namespace Lg
open Go
theorem pcs_len (c : UInt8) : ∀ l : BL, (pcs c l).length ≤ l.length + 1
  | [] => by simp [pcs]
  | b :: l => by
    have ih := pcs_len c l
    unfold pcs
    split
    · simp only [List.length_cons]; omega
    · split
      · simp
      · rename_i p r h; rw [h] at ih; simp only [List.length_cons] at ih ⊢; omega
end Lg
namespace Lg
open Go
end Lg
namespace Lg
open Go
theorem pune_len (l : BL) (h : okP l) : (pune l).length ≤ l.length := by
  refine okP_ind (M := fun l => (pune l).length ≤ l.length) (Nat.le_refl _) ?_ ?_ ?_ l.length l (Nat.le_refl _) h
  · intro r _ ih; show (126 :: pune r).length ≤ _; simp only [List.length_cons]; omega
  · intro r _ ih; show (47 :: pune r).length ≤ _; simp only [List.length_cons]; omega
  · intro b r hb _ ih; rw [une_c hb]; simp only [List.length_cons]; omega
theorem pN_len {s : BL} (h : pE s = none) : (pN s).length ≤ s.length + 1 ∧ ∀ x ∈ pN s, x.length ≤ s.length := by
  by_cases h0 : s = []
  · subst h0; exact ⟨Nat.zero_le _, fun x hx => by simp [pN] at hx⟩
  · obtain ⟨h1, h2⟩ := pE_ok h0 h
    have ht : okP (s.drop 1) := by cases s with | nil => exact absurd rfl h0 | cons b r => exact okP_tl h2
    have hl := pcs_len 47 (s.drop 1)
    have hd : (s.drop 1).length ≤ s.length := by rw [List.length_drop]; omega
    unfold pN; rw [if_neg h0, h]
    refine ⟨by simp only [Option.isSome_none, Bool.false_eq_true, if_false, List.length_map]; omega, fun x hx => ?_⟩
    simp only [Option.isSome_none, Bool.false_eq_true, if_false, List.mem_map] at hx
    obtain ⟨p, hp, rfl⟩ := hx
    obtain ⟨a, b, c⟩ := pcs_ok _ (s.drop 1) (Nat.le_refl _) ht p hp
    have := pune_len p a
    omega
def ex6 : BL := [47, 97, 126, 49, 98, 47, 48]
def ex6n : List BL := [[97, 47, 98], [48]]
variable [GLay] {P : Program} {σ : List AO}
end Lg
namespace Lg
open Go
/-! ### A pointer's names, byte by byte (the reference's way) -/
theorem pcs_split (c : UInt8) : ∀ l : BL, ∃ ps p, pcs c l = ps ++ [p]
  | [] => ⟨[], [], rfl⟩
  | b :: l => by
    obtain ⟨ps, p, h⟩ := pcs_split c l
    unfold pcs
    split
    · exact ⟨[] :: ps, p, by rw [h]; rfl⟩
    · rw [h]
      cases ps with
      | nil => exact ⟨[], b :: p, rfl⟩
      | cons q r => exact ⟨(b :: q) :: r, p, rfl⟩
theorem pcs_snoc_c (c : UInt8) : ∀ l : BL, pcs c (l ++ [c]) = pcs c l ++ [[]]
  | [] => by simp [pcs]
  | b :: l => by
    rw [List.cons_append, pcs, pcs, pcs_snoc_c c l]
    split
    · rfl
    · obtain ⟨ps, p, h⟩ := pcs_split c l
      rw [h]
      cases ps with
      | nil => rfl
      | cons q r => rfl
theorem pcs_snoc {b c : UInt8} (hb : ¬ b = c) : ∀ {l : BL} {ps : List BL} {p : BL}, pcs c l = ps ++ [p] → pcs c (l ++ [b]) = ps ++ [p ++ [b]]
  | [], ps, p, h => by
    have : ps = [] ∧ p = [] := by
      rw [pcs] at h
      cases ps with
      | nil => simp at h; exact ⟨rfl, h⟩
      | cons q r => simp at h
    obtain ⟨rfl, rfl⟩ := this
    simp [pcs, hb]
  | a :: l, ps, p, h => by
    obtain ⟨qs, q, hq⟩ := pcs_split c l
    have ih := pcs_snoc hb hq
    rw [List.cons_append, pcs, ih]
    rw [pcs, hq] at h
    split at h
    · rename_i e
      rw [if_pos e]
      have h2 : ([] :: qs) ++ [q] = ps ++ [p] := h
      obtain ⟨h3, h4⟩ := List.append_inj' h2 rfl
      subst h3; simp at h4; subst h4; rfl
    · rename_i e
      rw [if_neg e]
      cases qs with
      | nil =>
        have h2 : [] ++ [a :: q] = ps ++ [p] := h
        obtain ⟨h3, h4⟩ := List.append_inj' h2 rfl
        subst h3; simp at h4; subst h4; rfl
      | cons r rs =>
        have h2 : ((a :: r) :: rs) ++ [q] = ps ++ [p] := h
        obtain ⟨h3, h4⟩ := List.append_inj' h2 rfl
        subst h3; simp at h4; subst h4; rfl
theorem pune_app (m : BL) : ∀ (n : Nat) (l : BL), l.length ≤ n → okP l → pune (l ++ m) = pune l ++ pune m :=
  okP_ind (M := fun l => pune (l ++ m) = pune l ++ pune m) rfl
    (fun r _ ih => by simp only [List.cons_append, pune, ih]) (fun r _ ih => by simp only [List.cons_append, pune, ih])
    (fun b r hb _ ih => by rw [List.cons_append, une_c hb, une_c hb, ih]; rfl)
def nms (u : BL) : List BL := (pcs 47 u).map pune
theorem nms_split (u : BL) : ∃ ps p, nms u = ps ++ [p] := by
  obtain ⟨ps, p, h⟩ := pcs_split 47 u
  exact ⟨ps.map pune, pune p, by simp [nms, h]⟩
theorem nms_c (u : BL) : nms (u ++ [47]) = nms u ++ [[]] := by
  unfold nms; rw [pcs_snoc_c]; simp [pune]
theorem nms_b {u : BL} {ps : List BL} {p : BL} {b : UInt8} (h : nms u = ps ++ [p]) (hu : okP u) (h7 : ¬ b = 47) (h126 : ¬ b = 126) : nms (u ++ [b]) = ps ++ [p ++ [b]] := by
  obtain ⟨qs, q, hq⟩ := pcs_split 47 u
  have hok := pcs_ok u.length u (Nat.le_refl _) hu q (by rw [hq]; simp)
  unfold nms at h ⊢
  rw [pcs_snoc h7 hq]
  rw [hq, List.map_append] at h
  obtain ⟨h1, h2⟩ := List.append_inj' h rfl
  simp at h2; subst h1; subst h2
  rw [List.map_append, List.map_cons, List.map_nil, pune_app [b] _ q (Nat.le_refl _) hok.1]
  rw [une_c h126]; rfl
theorem nms_e {u : BL} {ps : List BL} {p : BL} {b : UInt8} (h : nms u = ps ++ [p]) (hu : okP u) (hb : b = 48 ∨ b = 49) : nms (u ++ [126, b]) = ps ++ [p ++ [if b = 49 then 47 else 126]] := by
  obtain ⟨qs, q, hq⟩ := pcs_split 47 u
  have hok := pcs_ok u.length u (Nat.le_refl _) hu q (by rw [hq]; simp)
  have h1 := pcs_snoc (b := 126) (c := 47) (by decide) hq
  have h2 := pcs_snoc (b := b) (c := 47) (by rcases hb with rfl | rfl <;> decide) h1
  rw [show u ++ [126, b] = u ++ [126] ++ [b] by simp]
  unfold nms at h ⊢
  rw [h2]
  rw [hq, List.map_append] at h
  obtain ⟨h3, h4⟩ := List.append_inj' h rfl
  simp at h4; subst h3; subst h4
  rw [List.map_append, List.map_cons, List.map_nil, show q ++ [126] ++ [b] = q ++ [126, b] by simp, pune_app [126, b] _ q (Nat.le_refl _) hok.1]
  rcases hb with rfl | rfl <;> rfl
theorem okP_snoc {u : BL} {b : UInt8} (h : okP u) (hb : ¬ b = 126) : okP (u ++ [b]) := fun i hi => by
  rcases Nat.lt_trichotomy i u.length with h1 | h1 | h1
  · rw [List.getElem?_append_left h1] at hi
    have := h i hi
    have h2 : i + 1 < u.length := by
      rcases this with h | h <;> exact (List.getElem?_eq_some_iff.1 h).1
    rwa [List.getElem?_append_left h2]
  · subst h1; simp at hi; exact absurd hi hb
  · rw [List.getElem?_append_right (by omega)] at hi
    have : i - u.length = (i - u.length - 1) + 1 := by omega
    rw [this] at hi; simp at hi
theorem okP_snoc2 {u : BL} {b : UInt8} (h : okP u) (hb : b = 48 ∨ b = 49) : okP (u ++ [126, b]) := fun i hi => by
  rcases Nat.lt_trichotomy i u.length with h1 | h1 | h1
  · rw [List.getElem?_append_left h1] at hi
    have := h i hi
    have h2 : i + 1 < u.length := by
      rcases this with h | h <;> exact (List.getElem?_eq_some_iff.1 h).1
    rwa [List.getElem?_append_left h2]
  · subst h1
    rw [List.getElem?_append_right (by omega), Nat.add_sub_cancel_left]
    rcases hb with rfl | rfl <;> simp
  · rw [List.getElem?_append_right (by omega)] at hi
    obtain ⟨k, hk⟩ : ∃ k, i - u.length = k + 1 := ⟨i - u.length - 1, by omega⟩
    rw [hk] at hi
    cases k with
    | zero => simp at hi; rcases hb with rfl | rfl <;> cases hi
    | succ k => simp at hi
theorem take_b {s : BL} {i : Nat} {b : UInt8} (h : s[i]? = some b) (hi : 1 ≤ i) : (s.take (i + 1)).drop 1 = (s.take i).drop 1 ++ [b] := by
  rw [List.take_add_one, h]
  have hl := (List.getElem?_eq_some_iff.1 h).1
  rw [List.drop_append_of_le_length (by rw [List.length_take]; omega)]; rfl
theorem take_2 {s : BL} {i : Nat} {a b : UInt8} (h : s[i]? = some a) (h2 : s[i + 1]? = some b) (hi : 1 ≤ i) : (s.take (i + 1 + 1)).drop 1 = (s.take i).drop 1 ++ [a, b] := by
  rw [take_b h2 (by omega), take_b h hi]; simp
/-- What the reference's Pointer has when it stands at i. -/
structure PAt (s : BL) (i : Nat) (L : List BL) : Prop where
  le : i ≤ s.length
  z : i = 0 → L = []
  ok : okP ((s.take i).drop 1)
  nm : 1 ≤ i → L = nms ((s.take i).drop 1)
  bad : ∀ j, j < i → tbad s j = false
theorem PAt.zero (s : BL) : PAt s 0 [] := ⟨Nat.zero_le _, fun _ => rfl, okP_nil, fun h => absurd h (by omega), fun j h => absurd h (by omega)⟩
theorem tb_no {s : BL} {i : Nat} {b : UInt8} (h : s[i]? = some b) (hb : ¬ b = 126) : tbad s i = false := by
  unfold tbad; rw [decide_eq_false (by rw [h]; simpa using hb)]; rfl
theorem PAt.slash {s : BL} {i : Nat} {L : List BL} (p : PAt s i L) (h : s[i]? = some 47) : PAt s (i + 1) (L ++ [[]]) where
  le := (List.getElem?_eq_some_iff.1 h).1
  z := fun e => absurd e (by omega)
  ok := by
    by_cases h0 : i = 0
    · subst h0; rw [List.drop_eq_nil_of_le (by simp [List.length_take]; omega)]; exact okP_nil
    · rw [take_b h (by omega)]; exact okP_snoc p.ok (by decide)
  nm := fun _ => by
    by_cases h0 : i = 0
    · subst h0; rw [p.z rfl, List.drop_eq_nil_of_le (by simp [List.length_take]; omega)]; rfl
    · rw [take_b h (by omega), nms_c, ← p.nm (by omega)]
  bad := fun j hj => by
    by_cases e : j = i
    · subst e; exact tb_no h (by decide)
    · exact p.bad j (by omega)
theorem PAt.byte {s : BL} {i : Nat} {L ps : List BL} {q : BL} {b : UInt8} (p : PAt s i L) (hi : 1 ≤ i) (hL : L = ps ++ [q]) (h : s[i]? = some b) (h7 : ¬ b = 47) (h126 : ¬ b = 126) : PAt s (i + 1) (ps ++ [q ++ [b]]) where
  le := (List.getElem?_eq_some_iff.1 h).1
  z := fun e => absurd e (by omega)
  ok := by rw [take_b h hi]; exact okP_snoc p.ok h126
  nm := fun _ => by rw [take_b h hi]; exact (nms_b ((p.nm hi).symm.trans hL) p.ok h7 h126).symm
  bad := fun j hj => by
    by_cases e : j = i
    · subst e; exact tb_no h h126
    · exact p.bad j (by omega)
theorem PAt.esc {s : BL} {i : Nat} {L ps : List BL} {q : BL} {b : UInt8} (p : PAt s i L) (hi : 1 ≤ i) (hL : L = ps ++ [q]) (h : s[i]? = some 126) (h2 : s[i + 1]? = some b) (hb : b = 48 ∨ b = 49) : PAt s (i + 1 + 1) (ps ++ [q ++ [if b = 49 then 47 else 126]]) where
  le := (List.getElem?_eq_some_iff.1 h2).1
  z := fun e => absurd e (by omega)
  ok := by rw [take_2 h h2 hi]; exact okP_snoc2 p.ok hb
  nm := fun _ => by rw [take_2 h h2 hi]; exact (nms_e ((p.nm hi).symm.trans hL) p.ok hb).symm
  bad := fun j hj => by
    by_cases e : j = i
    · subst e; unfold tbad; rw [h2]; rcases hb with rfl | rfl <;> simp
    · by_cases e2 : j = i + 1
      · subst e2; exact tb_no h2 (by rcases hb with rfl | rfl <;> decide)
      · exact p.bad j (by omega)
theorem PAt.done {s : BL} {L : List BL} (p : PAt s s.length L) (h0 : ¬ s = []) (h1 : s[0]? = some 47) : pE s = none ∧ pN s = L := by
  have hl : 1 ≤ s.length := List.length_pos_iff.2 h0
  have hE : pE s = none := pE_none h0 h1 p.bad
  refine ⟨hE, ?_⟩
  rw [p.nm hl]
  unfold pN; rw [if_neg h0, hE, List.take_length]; rfl
theorem PAt.last {s : BL} {i : Nat} {L : List BL} (p : PAt s i L) (hi : 1 ≤ i) : ∃ ps q, L = ps ++ [q] := by
  obtain ⟨ps, q, h⟩ := nms_split ((s.take i).drop 1)
  exact ⟨ps, q, (p.nm hi).trans h⟩
theorem PAt.len {s : BL} {i : Nat} {L : List BL} (p : PAt s i L) : L.length ≤ i + 1 := by
  by_cases h0 : i = 0
  · rw [p.z h0]; simp
  · rw [p.nm (by omega)]; unfold nms; rw [List.length_map]
    have := pcs_len 47 ((s.take i).drop 1)
    rw [List.length_drop, List.length_take] at this; omega
theorem PAt.el {s : BL} {i : Nat} {L : List BL} (p : PAt s i L) : ∀ x ∈ L, x.length ≤ i := by
  intro x hx
  by_cases h0 : i = 0
  · rw [p.z h0] at hx; cases hx
  · rw [p.nm (by omega)] at hx
    unfold nms at hx
    obtain ⟨y, hy, rfl⟩ := List.mem_map.1 hx
    have h1 := pcs_ok _ _ (Nat.le_refl _) p.ok y hy
    have := pune_len y h1.1
    have h2 := h1.2.2
    rw [List.length_drop, List.length_take] at h2; omega
end Lg
namespace Lg
open Go Go.RowKit
variable [GLay]
/-! ### Maps of the call's own -/
/-! ### Keys that are ints -/
def imap (m : List (Int × AV)) : List (AV × AV) := m.map fun q => (.int .i64 q.1, q.2)
def iget : List (Int × AV) → Int → Option (Nat × AV)
  | [], _ => none
  | (x, v) :: r, k => if k = x then some (0, v) else (iget r k).map fun z => (z.1 + 1, z.2)
theorem iget_none {m : List (Int × AV)} {k : Int} (h : ∀ q ∈ m, ¬ q.1 = k) : iget m k = none := by
  induction m with
  | nil => rfl
  | cons q r ih => obtain ⟨x, v⟩ := q; rw [iget, if_neg (fun e => h (x, v) (by simp) e.symm), ih (fun q hq => h q (by simp [hq]))]; rfl
variable {P : Program} {N : Nat} {σ : List AO} {e : Env} {o : Oper} {p : Nat}
section
variable {T K E : TypeId} {a b c : Operand} {m : List (Int × AV)} {k : Int} {z : Value}
end
end Lg
namespace Lg
open Go Go.RowKit
variable [GLay]
variable {P : Program} {N : Nat} {e : Env} {σ l : List AO} {Q : QA} {ops : Array Oper} {o : Oper}
theorem AWp_freezeInO {c : Code} (kq i kp gg sz len : Nat) {bs cs : List AV} (hq : l[kq]? = some (.box bs)) (hi : bs[i]? = some (.arr (σ.length + kp) gg sz 0 len)) (hσ : l[kp]? = some (.arr sz gg cs)) (es : List (List AV)) (hes : es.flatten = cs)
    (hel : ∀ r ∈ es, r.length = sz) (hlen : es.length = len) (hsz : sz ≠ 0) (k : AWp P N c e (σ ++ (l.set kp .dead).set kq (.box (bs.set i (.sl false sz es)))) Q) : AWp P N c e (σ ++ l) Q := by
  have hcl : cs.length = len * sz := by rw [← hes, flatten_len hel, hlen]
  refine AWp_freezeIn (σ.length + kq) i (σ.length + kp) gg sz 0 len (by rw [get_ownT rfl]; exact hq) hi (by rw [get_ownT rfl]; exact hσ) es ?_ hel hlen hsz ?_ (by rw [set_ownT rfl, set_ownT rfl]; exact k)
  · rw [Nat.zero_mul, List.drop_zero, ← hcl, List.take_length]; exact hes
  · rw [Nat.zero_add, hcl]; exact Nat.le_refl _
theorem AWp_freezeBoxO {c : Code} (t k : Nat) {cs : List AV} (hl : lookO e.l t = some (.ptr (σ.length + k) 0)) (hk : l[k]? = some (.box cs)) (h : AWp P N c (e.put (some t) (.pp cs)) (σ ++ l.set k .gone) Q) (ht : t < N) : AWp P N c e (σ ++ l) Q :=
  AWp_freeze t (σ.length + k) 0 hl (by rw [get_own]; exact hk) (by rw [set_own]; exact h) ht
/-- A call's end: what it leaves up to m is the caller's. -/
theorem ResQ_K {n0 : Nat} {ts : List Nat} {el : List (Nat × AV)} {v : AV} {R : Out → List AO → Prop} (m : Nat) (hm : n0 ≤ m) (h : resA ts ⟨[], el⟩ = v) (hc : closed m σ) (hv : v.lt m) (hR : R (.ret v) (σ.take m)) : ResQ n0 ts R .ret ⟨[], el⟩ σ :=
  ⟨rfl, m, hm, hc, by rw [h]; exact hv, by rw [h]; exact hR⟩
theorem imap_lt (n : Nat) (m : List (Int × AV)) (h : ∀ q ∈ m, q.2.lt n) : AV.ltL n (mflat (imap m)) := by
  induction m with
  | nil => trivial
  | cons a r ih =>
    obtain ⟨k, v⟩ := a
    exact ⟨trivial, h (k, v) (by simp), ih (fun q hq => h q (by simp [hq]))⟩
end Lg
namespace Lg
open Go
/-! ### Operations of a patch, as data -/
structure JOp where
  op : Int
  pa : List BL
  fr : List BL
  v : JV
def ocells (o : JOp) : List AV := .int .i64 o.op :: .sl false 1 (srow o.pa) :: .sl false 1 (srow o.fr) :: vcells o.v
def orows (l : List JOp) : List (List AV) := l.map ocells
theorem ocells_eq (o : JOp) : ocells o = [.int .i64 o.op, .sl false 1 (srow o.pa), .sl false 1 (srow o.fr), .int .i64 o.v.kind, .bool o.v.b, .bool o.v.n.neg, .str o.v.n.digits, .int .i64 o.v.n.exp, .str o.v.s, .sl false 8 (lcells o.v.l), .sl false 9 (mcells o.v.m)] := by
  rw [ocells, vcells_eq]
section
variable [GLay]
@[simp] theorem ocells_lt (n : Nat) (o : JOp) : AV.ltL n (ocells o) := by
  rw [ocells]; exact ⟨trivial, srow_lt n _, srow_lt n _, vcells_lt n _⟩
@[simp] theorem orows_lt (n : Nat) (l : List JOp) : AV.ltLL n (orows l) := by
  rw [AV.ltLL_iff]; intro e he; simp [orows] at he; obtain ⟨x, _, rfl⟩ := he; exact ocells_lt n x
@[simp] theorem oflat_lt (n : Nat) (l : List JOp) : AV.ltL n (orows l).flatten := by
  rw [AV.ltL_iff]; intro a ha
  obtain ⟨e, he, h⟩ := List.mem_flatten.1 ha
  exact (AV.ltL_iff _ _).1 ((AV.ltLL_iff _ _).1 (orows_lt n l) e he) a h
theorem ocells_ones (o : JOp) : ones (ocells o) = true := by rw [ocells_eq]; rfl
end
/-! ### What a value says as an operation -/
def bOp : ByteArray := ⟨#[111, 112]⟩
def bPath : ByteArray := ⟨#[112, 97, 116, 104]⟩
def bFrom : ByteArray := ⟨#[102, 114, 111, 109]⟩
def bValue : ByteArray := ⟨#[118, 97, 108, 117, 101]⟩
def opL : List (ByteArray × Int) := [(⟨#[97, 100, 100]⟩, 1), (⟨#[114, 101, 109, 111, 118, 101]⟩, 2), (⟨#[114, 101, 112, 108, 97, 99, 101]⟩, 3), (⟨#[109, 111, 118, 101]⟩, 4), (⟨#[99, 111, 112, 121]⟩, 5), (⟨#[116, 101, 115, 116]⟩, 6)]
def opn (s : ByteArray) : Int := ((opL.find? fun q => decide (s = q.1)).map (·.2)).getD 0
def jfD (v : JV) (key : ByteArray) : JV := (jfind v key).getD vz
def jfB (v : JV) (key : ByteArray) : Bool := (jfind v key).isSome
/-- The pointer that a member has; may it be one? -/
def jptN (v : JV) (key : ByteArray) : List BL := if jfB v key = true ∧ (jfD v key).kind = 3 then pN (jfD v key).s.data.toList else []
def jptB (v : JV) (key : ByteArray) : Bool := jfB v key && decide ((jfD v key).kind = 3) && (pE (jfD v key).s.data.toList).isNone
def jopn (v : JV) : Int := if jfB v bOp = true ∧ (jfD v bOp).kind = 3 then opn (jfD v bOp).s else 0
def jop (v : JV) : Option JOp :=
  if jopn v = 0 then none else
  if jptB v bPath = false then none else
  if jopn v = 4 ∨ jopn v = 5 then (if jptB v bFrom = true then some ⟨jopn v, jptN v bPath, jptN v bFrom, vz⟩ else none) else
  if jopn v = 2 then some ⟨2, jptN v bPath, [], vz⟩ else
  if jfB v bValue = true then some ⟨jopn v, jptN v bPath, [], jfD v bValue⟩ else none
/-- The operations ahead of i, if each is one. -/
def jops : List JV → Option (List JOp)
  | [] => some []
  | x :: r => match jop x with
    | none => none
    | some o => (jops r).map (o :: ·)
/-- Where the first that is none stands. -/
def jbadI (l : List JV) : Nat := (l.takeWhile fun x => (jop x).isSome).length
/-- What Read tells: the operations; an error's number, and its place. -/
def jrdC (v : JV) : Int := if ¬ v.kind = 4 then 1 else if 100 < v.l.length then 5 else if (jops v.l).isNone then 1 else 0
def jrdA (v : JV) : Int := if ¬ v.kind = 4 then 0 else if 100 < v.l.length then 100 else if (jops v.l).isNone then (jbadI v.l : Int) else 0
def jrd (v : JV) : List JOp := if ¬ v.kind = 4 then [] else if 100 < v.l.length then [] else (jops v.l).getD []
def jrdE (v : JV) : Option (Int × Int) := if jrdC v = 0 then none else some (jrdA v, jrdC v)
section
variable [GLay]
/-- What reading one operation answers. -/
def OpR (v : JV) (σ : List AO) : Out → List AO → Prop := fun o σ' => σ' = σ ∧ ∃ r x b, o = .ret (.tup [.agg r, .bool b]) ∧ AVleL r (ocells x) ∧ (b = true → jop v = some x) ∧ (b = false → jop v = none)
def OpS (v : JV) (σ : List AO) : Out → List AO → Prop := fun o σ' => σ' = σ ∧ ∃ x b, o = .ret (.tup [.agg (ocells x), .bool b]) ∧ (b = true → jop v = some x) ∧ (b = false → jop v = none)
end
end Lg
namespace Lg
open Go
def pEi (s : BL) : Int := match pE s with
  | none => -1
  | some i => (i : Int)
theorem pEi_n {s : BL} (h : pE s = none) : pEi s = -1 := by unfold pEi; rw [h]
theorem pEi_s {s : BL} {i : Nat} (h : pE s = some i) : pEi s = i := by unfold pEi; rw [h]
theorem pN_bad {s : BL} {i : Nat} (h0 : ¬ s = []) (h : pE s = some i) : pN s = [] := by unfold pN; rw [if_neg h0, h]; rfl
theorem sflat_len (L : List BL) : (srow L).flatten.length = L.length := by rw [srow_flat, List.length_map]
theorem srow_snoc (L : List BL) (x : BL) : (srow (L ++ [x])).flatten = (srow L).flatten ++ [.str (ba x)] := by rw [srow_flat, srow_flat, List.map_append]; rfl
theorem srow_last (ps : List BL) (q : BL) : (srow (ps ++ [q])).flatten[(ps ++ [q]).length - 1]? = some (.str (ba q)) := by
  rw [srow_snoc, List.length_append]
  rw [List.getElem?_append_right (by rw [sflat_len]; simp), sflat_len]
  simp
theorem srow_setl (ps : List BL) (q r : BL) : (srow (ps ++ [q])).flatten.set ((ps ++ [q]).length - 1) (.str (ba r)) = (srow (ps ++ [r])).flatten := by
  rw [srow_snoc, srow_snoc, List.length_append]
  rw [List.set_append_right _ _ (by rw [sflat_len]; simp), sflat_len]
  simp
end Lg
namespace Lg
open Go Go.RowKit
variable [GLay] {P : Program} {N : Nat} {σ l : List AO} {e : Env} {Q : QA} {o : Oper}
end Lg
namespace Lg
open Go
/-! ### Trees (layer 16): the cells of a node that is done, its Ids one behind the other -/
def krow (m : List (ByteArray × JV)) : List (List AV) := m.map fun q => [AV.str q.1]
def bare8 (k : Int) (b : Bool) (n : JNum) (s : ByteArray) : List AV := [.int .i64 k, .bool b, .bool n.neg, .str n.digits, .int .i64 n.exp, .str s, .nils, .nils]
mutual
def tcells : JV → Int → List AV
  | .mk k b n s l m, id => .int .i64 id :: (bare8 k b n s ++ [.sl false 1 (krow m), .sl false 1 (tL l (id + 1) ++ tM m (id + 1 + lsize l))])
def tL : List JV → Int → List (List AV)
  | [], _ => []
  | x :: r, id => [.pp (tcells x id)] :: tL r (id + jsize x)
def tM : List (ByteArray × JV) → Int → List (List AV)
  | [], _ => []
  | (_, x) :: r, id => [.pp (tcells x id)] :: tM r (id + jsize x)
end
end Lg
namespace Lg
open Go
/-! ### What the law's Seen has seen of a tree -/
mutual
def seenV : JV → Int → List (Int × AV)
  | .mk k b n s l m, id => seenL l (id + 1) ++ seenM m (id + 1 + lsize l) ++ [(id, .agg (vcells (.mk k b n s l m)))]
def seenL : List JV → Int → List (Int × AV)
  | [], _ => []
  | x :: r, id => seenV x id ++ seenL r (id + jsize x)
def seenM : List (ByteArray × JV) → Int → List (Int × AV)
  | [], _ => []
  | (_, x) :: r, id => seenV x id ++ seenM r (id + jsize x)
end
mutual
theorem seenV_key : ∀ (v : JV) (id : Int), ∀ q ∈ seenV v id, id ≤ q.1 ∧ q.1 < id + jsize v
  | .mk k b n s l m, id => fun q hq => by
    have hl := lsize_nn l
    have hm := msize_nn m
    rw [seenV] at hq
    rw [jsize]
    rcases List.mem_append.1 hq with hq | hq
    · rcases List.mem_append.1 hq with hq | hq
      · have := seenL_key l _ q hq; omega
      · have := seenM_key m _ q hq; omega
    · rw [List.mem_singleton] at hq; subst hq; simp only; omega
theorem seenL_key : ∀ (l : List JV) (id : Int), ∀ q ∈ seenL l id, id ≤ q.1 ∧ q.1 < id + lsize l
  | [], id => fun q hq => by simp [seenL] at hq
  | x :: r, id => fun q hq => by
    have hr := lsize_nn r
    have hx := jsize_pos x
    rw [seenL] at hq
    rw [lsize]
    rcases List.mem_append.1 hq with hq | hq
    · have := seenV_key x _ q hq; omega
    · have := seenL_key r _ q hq; omega
theorem seenM_key : ∀ (m : List (ByteArray × JV)) (id : Int), ∀ q ∈ seenM m id, id ≤ q.1 ∧ q.1 < id + msize m
  | [], id => fun q hq => by simp [seenM] at hq
  | (a, x) :: r, id => fun q hq => by
    have hr := msize_nn r
    have hx := jsize_pos x
    rw [seenM] at hq
    rw [msize]
    rcases List.mem_append.1 hq with hq | hq
    · have := seenV_key x _ q hq; omega
    · have := seenM_key r _ q hq; omega
end
mutual
theorem seenV_len : ∀ (v : JV) (id : Int), ((seenV v id).length : Int) = jsize v
  | .mk k b n s l m, id => by rw [seenV, jsize, List.length_append, List.length_append]; have := seenL_len l (id + 1); have := seenM_len m (id + 1 + lsize l); simp only [List.length_cons, List.length_nil]; omega
theorem seenL_len : ∀ (l : List JV) (id : Int), ((seenL l id).length : Int) = lsize l
  | [], id => rfl
  | x :: r, id => by rw [seenL, lsize, List.length_append]; have := seenV_len x id; have := seenL_len r (id + jsize x); omega
theorem seenM_len : ∀ (m : List (ByteArray × JV)) (id : Int), ((seenM m id).length : Int) = msize m
  | [], id => rfl
  | (a, x) :: r, id => by rw [seenM, msize, List.length_append]; have := seenV_len x id; have := seenM_len r (id + jsize x); omega
end
section
variable [GLay]
mutual
theorem seenV_lt (n : Nat) : ∀ (v : JV) (id : Int), ∀ q ∈ seenV v id, q.2.lt n
  | .mk k b nn s l m, id => fun q hq => by
    rw [seenV] at hq
    rcases List.mem_append.1 hq with hq | hq
    · rcases List.mem_append.1 hq with hq | hq
      · exact seenL_lt n l _ q hq
      · exact seenM_lt n m _ q hq
    · rw [List.mem_singleton] at hq; subst hq; simp [AV.lt]
theorem seenL_lt (n : Nat) : ∀ (l : List JV) (id : Int), ∀ q ∈ seenL l id, q.2.lt n
  | [], id => fun q hq => by simp [seenL] at hq
  | x :: r, id => fun q hq => by
    rw [seenL] at hq
    rcases List.mem_append.1 hq with hq | hq
    · exact seenV_lt n x _ q hq
    · exact seenL_lt n r _ q hq
theorem seenM_lt (n : Nat) : ∀ (m : List (ByteArray × JV)) (id : Int), ∀ q ∈ seenM m id, q.2.lt n
  | [], id => fun q hq => by simp [seenM] at hq
  | (a, x) :: r, id => fun q hq => by
    rw [seenM] at hq
    rcases List.mem_append.1 hq with hq | hq
    · exact seenV_lt n x _ q hq
    · exact seenM_lt n r _ q hq
end
end
/-- The Ids of a tree. -/
def idrow (id : Int) (n : Nat) : List (List AV) := (List.range n).map fun i => [AV.int .i64 (id + (i : Nat))]
theorem idrow_flat (id : Int) (n : Nat) : (idrow id n).flatten = (List.range n).map fun i => AV.int .i64 (id + (i : Nat)) := by
  unfold idrow
  induction (List.range n) with
  | nil => rfl
  | cons a r ih => simp [ih]
@[simp] theorem idrow_lt (m : Nat) (id : Int) (n : Nat) : AV.ltLL m (idrow id n) := by
  rw [AV.ltLL_iff]; intro e he; simp [idrow] at he; obtain ⟨i, _, rfl⟩ := he; exact ⟨trivial, trivial⟩
@[simp] theorem idflat_lt (m : Nat) (id : Int) (n : Nat) : AV.ltL m (idrow id n).flatten := by
  rw [idrow_flat, AV.ltL_iff]; intro a ha; simp at ha; obtain ⟨i, _, rfl⟩ := ha; trivial
theorem idones [GLay] (id : Int) (n : Nat) : ones (idrow id n).flatten = true := by
  rw [idrow_flat, ones_iff]; intro a ha; simp at ha; obtain ⟨i, _, rfl⟩ := ha; rfl
mutual
theorem tcells_lt (m : Nat) : ∀ (v : JV) (id : Int), AV.ltL m (tcells v id)
  | .mk k b n s l q, id => by
    rw [tcells, bare8]
    refine ⟨trivial, trivial, trivial, trivial, trivial, trivial, trivial, trivial, trivial, ?_, ?_, trivial⟩
    · show AV.ltLL m (krow q)
      rw [AV.ltLL_iff]; intro e he; simp [krow] at he; obtain ⟨a, b, _, rfl⟩ := he; exact ⟨trivial, trivial⟩
    · show AV.ltLL m (tL l (id + 1) ++ tM q (id + 1 + lsize l))
      rw [AV.ltLL_iff]; intro e he
      rcases List.mem_append.1 he with he | he
      · exact (AV.ltLL_iff _ _).1 (tL_lt m l _) e he
      · exact (AV.ltLL_iff _ _).1 (tM_lt m q _) e he
theorem tL_lt (m : Nat) : ∀ (l : List JV) (id : Int), AV.ltLL m (tL l id)
  | [], id => trivial
  | x :: r, id => by rw [tL]; exact ⟨⟨tcells_lt m x id, trivial⟩, tL_lt m r _⟩
theorem tM_lt (m : Nat) : ∀ (l : List (ByteArray × JV)) (id : Int), AV.ltLL m (tM l id)
  | [], id => trivial
  | (a, x) :: r, id => by rw [tM]; exact ⟨⟨tcells_lt m x id, trivial⟩, tM_lt m r _⟩
end
end Lg
namespace Lg
open Go
/-! ### How deep what is read may be -/
/-- The depth of what was read without an error. -/
def DD (r : RS) (x : JV × RS) : Prop := r.deep ≤ 32 → x.2.bad = 0 → jdepth x.1 + r.deep ≤ 32
section
variable [GLay]
variable {rv : RS → JV × RS} {s : ByteArray} (hs : s.size ≤ 100000) (hrv : ∀ r, ROK s r → VR s r (rv r)) (hd : ∀ r, ROK s r → DD r (rv r))
include hrv hd
omit hd in
theorem ropen_dep {r : RS} (hb : r.bad = 0) (h : (ropen s r).bad = 0) (h1 : r.deep ≤ 32) : r.deep + 1 ≤ 32 := by
  by_cases e : r.deep = 32
  · simp [ropen, e, hb] at h
  · omega
include hs
end
section
variable [GLay]
end
/-! ### A node's kids -/
def jkids (v : JV) : List JV := v.l ++ v.m.map (·.2)
@[simp] theorem krow_lt (n : Nat) (m : List (ByteArray × JV)) : AV.ltLL n (krow m) := by
  rw [AV.ltLL_iff]; intro e he; simp [krow] at he; obtain ⟨a, b, _, rfl⟩ := he; exact ⟨trivial, trivial⟩
theorem flat_lt {n : Nat} {es : List (List AV)} (h : AV.ltLL n es) : AV.ltL n es.flatten := by
  rw [AV.ltL_iff]; intro a ha
  obtain ⟨e, he, h2⟩ := List.mem_flatten.1 ha
  exact (AV.ltL_iff _ _).1 ((AV.ltLL_iff _ _).1 h e he) a h2
attribute [simp] tcells_lt tL_lt tM_lt
section
variable [GLay]
theorem may_nol {v : JV} (h : jmay v) (hk : ¬ v.kind = 4) : v.l = [] := by
  have hb := ((jmay_eq v).1 h).1.2.2.1
  unfold jbare at hb
  simp only [hk, Bool.and_eq_true, Bool.or_eq_true, decide_eq_true_eq, or_false] at hb
  exact List.length_eq_zero_iff.1 hb.2.1
theorem may_nom {v : JV} (h : jmay v) (hk : ¬ v.kind = 5) : v.m = [] := by
  have hb := ((jmay_eq v).1 h).1.2.2.1
  unfold jbare at hb
  simp only [hk, Bool.and_eq_true, Bool.or_eq_true, decide_eq_true_eq, or_false] at hb
  exact List.length_eq_zero_iff.1 hb.2.2
theorem may_get {v : JV} (h : jmay v) {i : Nat} {x : JV} (hx : v.l[i]? = some x) : jmay x := ((jmay_eq v).1 h).2.2 i x hx
theorem may_mget {v : JV} (h : jmay v) {i : Nat} {q : ByteArray × JV} (hq : v.m[i]? = some q) : jmay q.2 :=
  (((jmay_eq v).1 h).2.1 i q (List.getElem?_eq_some_iff.1 hq).1 hq).2
end
end Lg
namespace Lg
open Go
def opNm : List ByteArray := [⟨#[]⟩, ⟨#[97, 100, 100]⟩, ⟨#[114, 101, 109, 111, 118, 101]⟩, ⟨#[114, 101, 112, 108, 97, 99, 101]⟩, ⟨#[109, 111, 118, 101]⟩, ⟨#[99, 111, 112, 121]⟩, ⟨#[116, 101, 115, 116]⟩]
/-- The reference's loop over the operations' names: what was found ahead of i. -/
def opc (v : JV) (i : Nat) : Int := if jfB v bOp = true ∧ (jfD v bOp).kind = 3 ∧ opn (jfD v bOp).s < i then opn (jfD v bOp).s else 0
section
variable [GLay]
theorem jfD_jb {v : JV} {key : ByteArray} (h : jb v) : jb (jfD v key) := by
  unfold jfD
  cases hf : jfind v key with
  | none => exact jb_nil _ _ _ _ (Nat.zero_le _) (Nat.zero_le _)
  | some x =>
    unfold jfind at hf
    split at hf
    · rw [Option.map_eq_some_iff] at hf
      obtain ⟨q, hq, rfl⟩ := hf
      obtain ⟨j, hj⟩ := List.getElem?_of_mem (List.mem_of_find?_eq_some hq)
      exact (mb_get ((jb_eq v).1 h).2.2.2.2.2 hj).2
    · cases hf
/-- Operations whose parts are not too large. -/
structure OB (o : JOp) : Prop where
  jb : jb o.v
  pa : o.pa.length ≤ 2000000
  fr : o.fr.length ≤ 2000000
end
end Lg
namespace Lg
open Go
def ex8 : ByteArray := ⟨#[91, 123, 34, 111, 112, 34, 58, 34, 114, 101, 109, 111, 118, 101, 34, 44, 34, 112, 97, 116, 104, 34, 58, 34, 47, 97, 34, 125, 93]⟩
end Lg
namespace Lg
open Go
theorem valL_nat : ∀ (l : BL) (v : Nat), aD l → Lib.decFrom v l = some (valL v l).toNat ∧ 0 ≤ valL v l ∧ valL v l < ((v : Int) + 1) * 10 ^ l.length
  | [], v, _ => ⟨by simp [Lib.decFrom, valL], by simp [valL], by simp [valL]; omega⟩
  | b :: l, v, h => by
    obtain ⟨hb, hl⟩ := aD_cons h
    have hd : Lib.digitVal b = some (b.toNat - 48) := by unfold Lib.digitVal; rw [if_pos hb]
    have hv : valL v (b :: l) = valL ((v * 10 + (b.toNat - 48) : Nat) : Int) l := by
      show valL (10 * (v : Int) + (b.toNat : Int) - 48) l = _
      congr 1; omega
    obtain ⟨h1, h2, h3⟩ := valL_nat l (v * 10 + (b.toNat - 48)) hl
    rw [hv]
    refine ⟨?_, h2, ?_⟩
    · simp only [Lib.decFrom, hd]; exact h1
    · refine Int.lt_of_lt_of_le h3 ?_
      rw [List.length_cons, Int.pow_succ, Int.mul_comm (10 ^ l.length) 10, ← Int.mul_assoc]
      exact Int.mul_le_mul_of_nonneg_right (by omega) (Int.pow_nonneg (by omega))
def smallI (e : BL) : Int := if hd45 e = true then -smallN (strip 45 e) else smallN (strip 45 e)
def pAll (l : BL) : BL := cutL ((pParts (strip 45 l)).1 ++ (pParts (strip 45 l)).2.1)
def pX (l : BL) : Int := smallI (pParts (strip 45 l)).2.2.1 - (pParts (strip 45 l)).2.1.length + (pAll l).length - (cutR (pAll l)).length
theorem pNum_zero {l : BL} (h : (pParts (strip 45 l)).2.2.2 = true) (h2 : pAll l = []) : pNum l = ({}, 0) := by unfold pNum; rw [if_neg (by simp [h])]; exact if_pos h2
theorem pNum_some {l : BL} (h : (pParts (strip 45 l)).2.2.2 = true) (h2 : ¬ pAll l = []) (h3 : ¬ (60 < (cutR (pAll l)).length ∨ 1000 < pX l ∨ pX l < -1000)) : pNum l = (⟨hd45 l, ba (cutR (pAll l)), pX l⟩, 0) := by unfold pNum; rw [if_neg (by simp [h])]; exact (if_neg h2).trans (if_neg h3)
end Lg
namespace Lg
open Go
/-! ### Digits side by side -/
def cmpL : BL → BL → Int
  | [], [] => 0
  | [], _ :: _ => -1
  | _ :: _, [] => 1
  | a :: x, b :: y => if a.toNat < b.toNat then -1 else if b.toNat < a.toNat then 1 else cmpL x y
end Lg
namespace Lg
open Go
/-! ### Numbers that may be -/
structure JOk (n : JNum) (d : BL) : Prop where
  dig : n.digits = ba d
  ne : d ≠ []
  ad : aD d
  hd : d.head? ≠ some 48
  lst : d.getLast? ≠ some 48
  len : d.length ≤ 60
  lo : -1000 ≤ n.exp
  hi : n.exp ≤ 1000
def JMay (n : JNum) : Prop := n = {} ∨ ∃ d, JOk n d
theorem JOk.nil {n : JNum} {d : BL} (h : JOk n d) : ¬ n.digits = ⟨#[]⟩ := fun e => h.ne (ba_nil.1 (h.dig ▸ e))
theorem JOk.size {n : JNum} {d : BL} (h : JOk n d) : n.digits.size = d.length := by rw [h.dig, ba_size]
theorem JMay.bnd {n : JNum} (h : JMay n) : n.digits.size ≤ 1000000 ∧ -1000000 ≤ n.exp ∧ n.exp ≤ 1000000 := by
  rcases h with rfl | ⟨d, h⟩
  · exact ⟨by decide, by decide, by decide⟩
  · have := h.size; have := h.len; have := h.lo; have := h.hi
    omega
theorem JOk.sign {n : JNum} {d : BL} (h : JOk n d) : jsign n = if n.neg = true then -1 else 1 := by unfold jsign; rw [if_neg h.nil]
/-- Both sides' order of two numbers of digits of the same sign. -/
def kcmp (a b : JNum) (d e : BL) : Int := if cmpI (d.length + a.exp) (e.length + b.exp) = 0 then cmpL d e else cmpI (d.length + a.exp) (e.length + b.exp)
/-! ### The order -/
end Lg
namespace Lg
open Go
/-! ### Decimal digits -/
theorem valL_snoc (l : BL) (c : UInt8) (v : Int) : valL v (l ++ [c]) = 10 * valL v l + (c.toNat : Int) - 48 := by
  unfold valL; rw [List.foldl_append]; rfl
theorem dd_facts (u : Nat) : aD (Lib.decDigits u) ∧ valL 0 (Lib.decDigits u) = u ∧ Lib.decDigits u ≠ [] ∧ (0 < u → (Lib.decDigits u).head? ≠ some 48) := by
  induction u using Nat.strongRecOn with
  | ind u ih =>
    by_cases h : u < 10
    · rw [dd_small h]
      have e : (UInt8.ofNat (48 + u)).toNat = 48 + u := by rw [UInt8.toNat_ofNat']; omega
      refine ⟨fun b hb => ?_, ?_, by simp, ?_⟩
      · have : b = UInt8.ofNat (48 + u) := by simpa using hb
        subst this; rw [isD_iff, e]; omega
      · show 10 * (0 : Int) + ((UInt8.ofNat (48 + u)).toNat : Int) - 48 = u
        rw [e]; omega
      · intro hu hh
        have : UInt8.ofNat (48 + u) = 48 := by simpa using hh
        have := congrArg UInt8.toNat this
        rw [e] at this
        have e48 : (48 : UInt8).toNat = 48 := rfl
        omega
    · rw [dd_big h]
      obtain ⟨h1, h2, h3, h4⟩ := ih (u / 10) (by omega)
      have e : (UInt8.ofNat (48 + u % 10)).toNat = 48 + u % 10 := by rw [UInt8.toNat_ofNat']; omega
      refine ⟨fun b hb => ?_, ?_, by simp, ?_⟩
      · rcases List.mem_append.1 hb with hb | hb
        · exact h1 b hb
        · have : b = UInt8.ofNat (48 + u % 10) := by simpa using hb
          subst this; rw [isD_iff, e]; omega
      · rw [valL_snoc, h2, e]; omega
      · intro hu
        have hd0 : (Lib.decDigits (u / 10) ++ [UInt8.ofNat (48 + u % 10)]).head? = (Lib.decDigits (u / 10)).head? := by
          cases hq : Lib.decDigits (u / 10) with
          | nil => exact absurd hq h3
          | cons => rfl
        rw [hd0]
        exact h4 (by omega)
theorem dd_len10 (k : Nat) : ∀ (u : Nat), 1 ≤ k → u < 10 ^ k → (Lib.decDigits u).length ≤ k := by
  induction k with
  | zero => intro u h; omega
  | succ k ih =>
    intro u _ hu
    by_cases h : u < 10
    · rw [dd_small h]; simp
    · rw [dd_big h, List.length_append]
      have hk : 1 ≤ k := by
        rcases Nat.eq_zero_or_pos k with rfl | h0
        · simp at hu; omega
        · exact h0
      have := ih (u / 10) hk (by rw [Nat.pow_succ] at hu; omega)
      simp only [List.length_cons, List.length_nil]; omega
theorem tw_all {d : BL} (h : aD d) (r : BL) (hr : r.head?.all (fun b => !isD b) = true) : (d ++ r).takeWhile isD = d ∧ (d ++ r).dropWhile isD = r := by
  induction d with
  | nil =>
    cases r with
    | nil => exact ⟨rfl, rfl⟩
    | cons b q =>
      have hb : isD b = false := by simpa using hr
      simp [List.takeWhile_cons, List.dropWhile_cons, hb]
  | cons b d ih =>
    have hb : isD b = true := h b (List.mem_cons_self ..)
    obtain ⟨h1, h2⟩ := ih (fun c hc => h c (List.mem_cons_of_mem _ hc))
    simp only [List.cons_append, List.takeWhile_cons, List.dropWhile_cons, hb, if_true]
    exact ⟨by rw [h1], h2⟩
theorem hd_ne45 {d : BL} (h : aD d) (hne : d ≠ []) (r : BL) : strip 45 (d ++ r) = d ++ r ∧ strip 43 (d ++ r) = d ++ r ∧ hd45 (d ++ r) = false ∧ hdC 43 (d ++ r) = false := by
  cases d with
  | nil => exact absurd rfl hne
  | cons b q =>
    have hb := (aD_cons h).1
    have h45 : ¬ b = 45 := by rintro rfl; exact absurd hb.1 (by decide)
    refine ⟨strip_ne (by omega), strip_ne (by omega), by simp [hd45, h45], ?_⟩
    rw [List.cons_append, hdC_cons]
    exact decide_eq_false (by have : (43 : UInt8).toNat = 43 := rfl; omega)
theorem itoa_pos {n : Int} (h : 0 ≤ n) : Lib.itoa n = Lib.decDigits n.toNat := by unfold Lib.itoa; rw [if_neg (by omega)]
theorem itoa_neg' {n : Int} (h : n < 0) : Lib.itoa n = 45 :: Lib.decDigits (-n).toNat := by unfold Lib.itoa; rw [if_pos h]; congr 2; omega
theorem smallN_dd {u : Nat} (h : u < 100000) : smallN (Lib.decDigits u) = u := by
  obtain ⟨h1, h2, h3, h4⟩ := dd_facts u
  unfold smallN
  rw [if_pos, valL_zeros, h2]
  have := (List.dropWhile_sublist (l := Lib.decDigits u) (· == (48 : UInt8))).length_le
  have := dd_len10 5 u (by omega) (by simpa using h)
  omega
/-- An exponent's text. -/
theorem smallI_itoa {n : Int} (h : -1000 ≤ n ∧ n ≤ 1000) : smallI (Lib.itoa n) = n := by
  by_cases hn : n < 0
  · rw [itoa_neg' hn]
    unfold smallI
    rw [if_pos (by rfl), strip_eq (by rfl), smallN_dd (by omega)]; omega
  · rw [itoa_pos (by omega)]
    obtain ⟨h1, h2, h3, h4⟩ := dd_facts n.toNat
    have hh := hd_ne45 h1 h3 []
    rw [List.append_nil] at hh
    unfold smallI
    rw [hh.2.2.1, if_neg (by simp), hh.1, smallN_dd (by omega)]; omega
theorem pExp_itoa {n : Int} (h : -1000 ≤ n ∧ n ≤ 1000) : pExp (101 :: Lib.itoa n) = (Lib.itoa n, true) := by
  have hx : ∀ d : BL, aD d → d ≠ [] → strip 43 (Lib.itoa n) = Lib.itoa n → hdC 43 (Lib.itoa n) = false → strip 45 (Lib.itoa n) = d → pExp (101 :: Lib.itoa n) = (Lib.itoa n, true) := by
    intro d hd hne h43 hc h45
    have h1 : (pExp (101 :: Lib.itoa n)).1 = Lib.itoa n := h43
    have h2 : (pExp (101 :: Lib.itoa n)).2 = true := by
      rw [pExp2, h43, h45, hc]
      have := (tw_all hd [] rfl).1
      rw [List.append_nil] at this
      rw [this]
      simp [hne]
    rw [← h1, ← h2, h1, h2]
    exact Prod.ext h1 h2
  by_cases hn : n < 0
  · obtain ⟨h1, h2, h3, h4⟩ := dd_facts (-n).toNat
    refine hx (Lib.decDigits (-n).toNat) h1 h3 ?_ ?_ ?_ <;> rw [itoa_neg' hn] <;> rfl
  · obtain ⟨h1, h2, h3, h4⟩ := dd_facts n.toNat
    have hh := hd_ne45 h1 h3 []
    rw [List.append_nil, ← itoa_pos (by omega)] at hh
    exact hx _ (by rw [itoa_pos (by omega)]; exact h1) (by rw [itoa_pos (by omega)]; exact h3) hh.2.1 hh.2.2.2 hh.1
theorem cutL_id {d : BL} (h : d.head? ≠ some 48) : cutL d = d := by
  cases d with
  | nil => rfl
  | cons b q => rw [cutL_cons, if_neg (fun e => h (by rw [e]; rfl))]
theorem cutR_id {d : BL} (h : d.getLast? ≠ some 48) : cutR d = d := by
  unfold cutR
  have : d.reverse.head? ≠ some 48 := by rwa [List.head?_reverse]
  have h2 := cutL_id this
  unfold cutL at h2
  rw [h2, List.reverse_reverse]
/-- The parts of a number's canonical text. -/
theorem pParts_show {d r : BL} {x : BL} (hd : aD d) (hne : d ≠ []) (hh : 1 < d.length → d.head? ≠ some 48) (hr : r.head?.all (fun b => !isD b) = true) (hf : pFrac r = some ([], r)) (hx : pExp r = (x, true)) :
    pParts (d ++ r) = (d, [], x, true) := by
  obtain ⟨h1, h2⟩ := tw_all hd r hr
  have hl := List.length_pos_iff.2 hne
  rw [pParts_some (f := []) (r := r) ?_ (by rw [h2]; exact hf), h1, hx]
  rw [h1]
  rintro (h | ⟨h, hz⟩)
  · omega
  · refine hh h ?_
    cases d with
    | nil => exact absurd rfl hne
    | cons b q => simpa using hz
/-- A text of a sign, digits, and an exponent is read. -/
theorem pNum_text {d r x : BL} {ng : Bool} {n : Int} (hd : aD d) (hne : d ≠ []) (hh : d.head? ≠ some 48) (hl : d.getLast? ≠ some 48) (hlen : d.length ≤ 60) (hr : r.head?.all (fun b => !isD b) = true) (hf : pFrac r = some ([], r)) (hx : pExp r = (x, true)) (hs : smallI x = n) (hn : -1000 ≤ n ∧ n ≤ 1000) :
    pNum ((if ng = true then [45] else []) ++ (d ++ r)) = (⟨ng, ba d, n⟩, 0) := by
  have hst : strip 45 ((if ng = true then [45] else []) ++ (d ++ r)) = d ++ r := by
    cases ng
    · exact (hd_ne45 hd hne r).1
    · exact strip_eq rfl
  have h45 : hd45 ((if ng = true then [45] else []) ++ (d ++ r)) = ng := by
    cases ng
    · exact (hd_ne45 hd hne r).2.2.1
    · rfl
  have hp := pParts_show hd hne (fun _ => hh) hr hf hx
  have hA : pAll ((if ng = true then [45] else []) ++ (d ++ r)) = d := by
    unfold pAll; rw [hst, hp]; simp only [List.append_nil]; exact cutL_id hh
  have hX : pX ((if ng = true then [45] else []) ++ (d ++ r)) = n := by
    unfold pX; rw [hst, hp, hA, cutR_id hl]; simp only [List.length_nil]; rw [hs]; omega
  rw [pNum_some (by rw [hst, hp]) (by rw [hA]; exact hne) (by rw [hA, hX, cutR_id hl]; omega), hA, hX, h45, cutR_id hl]
theorem back {n : JNum} (h : JMay n) : ∃ l, jshow n = ba l ∧ pNum l = (n, 0) ∧ l.length ≤ 1000 := by
  rcases h with rfl | ⟨d, h⟩
  · refine ⟨[48], ?_, ?_, by simp⟩
    · unfold jshow; rw [if_pos rfl]; rfl
    · have hp : pParts (strip 45 [48]) = ([48], [], [48], true) := pParts_show (d := [48]) (r := []) (fun b hb => by simp at hb; subst hb; rfl) (by simp) (fun h => by simp at h) rfl rfl rfl
      exact pNum_zero (by rw [hp]) (by unfold pAll; rw [hp]; rfl)
  · have hsg : ∀ m : ByteArray, (if n.neg = true then (⟨#[45]⟩ : ByteArray) ++ n.digits else n.digits) = ba ((if n.neg = true then [45] else []) ++ d) := by
      intro m
      rw [h.dig]
      cases n.neg
      · rfl
      · exact ba_app [45] d
    have hlen := h.len; have hlo := h.lo; have hhi := h.hi
    have hsl : (if n.neg = true then [(45 : UInt8)] else []).length ≤ 1 := by split <;> simp
    unfold jshow
    rw [if_neg h.nil, hsg ⟨#[]⟩]
    by_cases he : n.exp = 0
    · rw [if_pos he]
      refine ⟨_, rfl, ?_, by rw [List.length_append]; omega⟩
      have := pNum_text (d := d) (r := []) (x := [48]) (ng := n.neg) (n := 0) h.ad h.ne h.hd h.lst h.len rfl rfl rfl rfl (by omega)
      rw [List.append_nil] at this
      rw [this, ← h.dig, ← he]
    · rw [if_neg he]
      refine ⟨(if n.neg = true then [45] else []) ++ (d ++ (101 :: Lib.itoa n.exp)), ?_, ?_, ?_⟩
      · rw [show (⟨#[101]⟩ : ByteArray) = ba [101] from rfl, ba_app]
        unfold itoaB
        rw [ba_app]; simp
      · rw [pNum_text (d := d) (r := 101 :: Lib.itoa n.exp) (x := Lib.itoa n.exp) (ng := n.neg) (n := n.exp) h.ad h.ne h.hd h.lst h.len rfl rfl (pExp_itoa ⟨hlo, hhi⟩) (smallI_itoa ⟨hlo, hhi⟩) ⟨hlo, hhi⟩, ← h.dig]
      · have := itoa_size (n := n.exp) (by omega) (by omega)
        unfold itoaB at this; rw [ba_size] at this
        simp only [List.length_append, List.length_cons]; omega
end Lg
namespace Lg
open Go
/-! ### Which element a name means -/
def jixB (nm : BL) : Prop := nm = [] ∨ ¬ runl (ba nm) 0 = nm.length ∨ (1 < nm.length ∧ (bat (ba nm) 0).toNat = 48) ∨ 18 < nm.length
instance (nm : BL) : Decidable (jixB nm) := by unfold jixB; infer_instance
def jidx (nm : BL) (n : Nat) (e : Bool) : Option Nat :=
  if e = true ∧ nm = [45] then some n else
  if jixB nm then none else
  if valL 0 nm < n ∨ (valL 0 nm = n ∧ e = true) then some (valL 0 nm).toNat else none
def jixN (nm : BL) (n : Nat) (e : Bool) : Int := (jidx nm n e).elim 0 (fun k => (k : Int))
def jixO (nm : BL) (n : Nat) (e : Bool) : Bool := (jidx nm n e).isSome
theorem jix_minus {nm : BL} {n : Nat} {e : Bool} (h1 : e = true) (h2 : nm = [45]) : jixN nm n e = n ∧ jixO nm n e = true := by
  unfold jixN jixO jidx; rw [if_pos ⟨h1, h2⟩]; exact ⟨rfl, rfl⟩
theorem jix_bad {nm : BL} {n : Nat} {e : Bool} (h : ¬ (e = true ∧ nm = [45])) (hb : jixB nm) : jixN nm n e = 0 ∧ jixO nm n e = false := by
  unfold jixN jixO jidx; rw [if_neg h, if_pos hb]; exact ⟨rfl, rfl⟩
theorem jix_val {nm : BL} {n : Nat} {e : Bool} (h : ¬ (e = true ∧ nm = [45])) (hb : ¬ jixB nm) (h0 : 0 ≤ valL 0 nm) (hv : valL 0 nm < n ∨ (valL 0 nm = n ∧ e = true)) : jixN nm n e = valL 0 nm ∧ jixO nm n e = true := by
  unfold jixN jixO jidx; rw [if_neg h, if_neg hb, if_pos hv]; exact ⟨Int.toNat_of_nonneg h0, rfl⟩
theorem jix_big {nm : BL} {n : Nat} {e : Bool} (h : ¬ (e = true ∧ nm = [45])) (hb : ¬ jixB nm) (hv : ¬ (valL 0 nm < n ∨ (valL 0 nm = n ∧ e = true))) : jixN nm n e = 0 ∧ jixO nm n e = false := by
  unfold jixN jixO jidx; rw [if_neg h, if_neg hb, if_neg hv]; exact ⟨rfl, rfl⟩
theorem jixB_aD {nm : BL} (h : ¬ jixB nm) : aD nm ∧ 0 < nm.length ∧ nm.length ≤ 18 := by
  unfold jixB at h
  have h1 : runl (ba nm) 0 = nm.length := Classical.byContradiction fun x => h (.inr (.inl x))
  rw [runl_ba] at h1
  refine ⟨aD_of_len h1, ?_, Nat.le_of_not_lt fun x => h (.inr (.inr (.inr x)))⟩
  have h2 : nm ≠ [] := fun x => h (.inl x)
  exact List.length_pos_iff.2 h2
theorem valL_bd {l : BL} (h : aD l) : 0 ≤ valL 0 l ∧ valL 0 l < 10 ^ l.length := by
  have := valL_nat l 0 h
  exact ⟨this.2.1, by have h2 := this.2.2; simpa using h2⟩
theorem jidx_le {nm : BL} {n k : Nat} {e : Bool} (h : jidx nm n e = some k) : k ≤ n ∧ (e = false → k < n) := by
  unfold jidx at h
  split at h
  · rename_i h1; cases h; exact ⟨Nat.le_refl _, fun h => by rw [h1.1] at h; cases h⟩
  · split at h
    · cases h
    · rename_i hb0
      have h0 := (valL_bd (jixB_aD hb0).1).1
      split at h
      · rename_i h1
        cases h
        rcases h1 with h1 | ⟨h1, h2⟩
        · exact ⟨by omega, fun _ => by omega⟩
        · exact ⟨by omega, fun h => by rw [h2] at h; cases h⟩
      · cases h
theorem valL_take {l : BL} (h : aD l) (h18 : l.length ≤ 18) {i : Nat} (hi : i < l.length) : 0 ≤ valL 0 (l.take i) ∧ valL 0 (l.take i) < 100000000000000000 := by
  have ha : aD (l.take i) := fun b hb => h b (List.mem_of_mem_take hb)
  have h1 := valL_bd ha
  refine ⟨h1.1, Int.lt_of_lt_of_le h1.2 ?_⟩
  have h2 : (l.take i).length ≤ 17 := by rw [List.length_take]; omega
  have h3 : (10 : Nat) ^ (l.take i).length ≤ 10 ^ 17 := Nat.pow_le_pow_right (by decide) h2
  have h4 : ((10 : Nat) ^ (l.take i).length : Int) ≤ ((10 ^ 17 : Nat) : Int) := by exact_mod_cast h3
  exact h4
theorem valL_step {l : BL} {i : Nat} {c : UInt8} (h : l[i]? = some c) : valL 0 (l.take (i + 1)) = 10 * valL 0 (l.take i) + (c.toNat : Int) - 48 := by
  rw [ltake_succ h, valL_snoc]
/-! ### A value with one change, as the reference makes it -/
def eIns (last : Bool) (op : Int) (k : Nat) (x : JV) (i : Nat) : List JV := if i = k ∧ last = true ∧ op ≠ 2 then [x] else []
def eOld (last : Bool) (op : Int) (k : Nat) (y : JV) (l : List JV) (i : Nat) : List JV := match l[i]? with
  | none => []
  | some a => if i = k then (if last = true then (if op = 1 then [a] else []) else [y]) else [a]
def eA (last : Bool) (op : Int) (k : Nat) (x y : JV) (l : List JV) : Nat → List JV
  | 0 => []
  | i + 1 => eA last op k x y l i ++ eIns last op k x i ++ eOld last op k y l i
def eMi (last : Bool) (op : Int) (key k : ByteArray) (put : Bool) : Bool := last && decide (op ≠ 2) && !put && !blt k key
def eM (last : Bool) (op : Int) (key : ByteArray) (x : JV) (f : JV → JV) : List (ByteArray × JV) → Bool → List (ByteArray × JV)
  | [], put => if (last && decide (op ≠ 2) && !put) = true then [(key, x)] else []
  | q :: r, put => (if eMi last op key q.1 put = true then [(key, x)] else []) ++ ((if q.1 = key then (if last = true then [] else [(q.1, f q.2)]) else [q]) ++ eM last op key x f r (put || eMi last op key q.1 put))
def eBad (last : Bool) (key : ByteArray) (g : JV → Int) (m : List (ByteArray × JV)) : Int := if last = true then 0 else ((m.find? fun q => decide (q.1 = key) && decide (g q.2 ≠ 0)).map fun q => g q.2).getD 0
def jed (op : Int) (x : JV) : List BL → JV → JV × Int
  | [], v => if op = 2 then (vz, 7) else (x, 0)
  | nm :: r, v =>
    if v.kind = 4 then
      if jixO nm v.l.length (decide (op = 1) && r.isEmpty) = true then
        if r.isEmpty = false ∧ (jed op x r (v.l.getD (jixN nm v.l.length (decide (op = 1) && r.isEmpty)).toNat vz)).2 ≠ 0 then (vz, (jed op x r (v.l.getD (jixN nm v.l.length (decide (op = 1) && r.isEmpty)).toNat vz)).2)
        else (.mk v.kind v.b v.n v.s (eA r.isEmpty op (jixN nm v.l.length (decide (op = 1) && r.isEmpty)).toNat x (jed op x r (v.l.getD (jixN nm v.l.length (decide (op = 1) && r.isEmpty)).toNat vz)).1 v.l (v.l.length + 1)) [], 0)
      else (vz, 6)
    else if v.kind ≠ 5 ∨ (jfB v (ba nm) = false ∧ (op ≠ 1 ∨ r.isEmpty = false)) then (vz, 6)
    else if eBad r.isEmpty (ba nm) (fun y => (jed op x r y).2) v.m ≠ 0 then (vz, eBad r.isEmpty (ba nm) (fun y => (jed op x r y).2) v.m)
    else (.mk v.kind v.b v.n v.s [] (eM r.isEmpty op (ba nm) x (fun y => (jed op x r y).1) v.m false), 0)
theorem eIns_y {last : Bool} {op : Int} {k : Nat} {x : JV} {i : Nat} (h : i = k ∧ last = true ∧ op ≠ 2) : eIns last op k x i = [x] := if_pos h
theorem eIns_n {last : Bool} {op : Int} {k : Nat} {x : JV} {i : Nat} (h : ¬ (i = k ∧ last = true ∧ op ≠ 2)) : eIns last op k x i = [] := if_neg h
end Lg
set_option maxRecDepth 20000
set_option maxHeartbeats 4000000
namespace Lg
open Go Go.Proofs Go.RowKit
variable [GLay] 
theorem ba_nil0 {nm : BL} : (ba nm = ⟨#[]⟩) = (nm = []) := propext ⟨fun h => by have := congrArg ByteArray.size h; rw [ba_size] at this; exact List.eq_nil_of_length_eq_zero this, fun h => by subst h; rfl⟩
theorem ba_minus {nm : BL} : (ba nm = ⟨#[45]⟩) = (nm = [45]) := propext ⟨fun h => by have := congrArg (fun b => b.data.toList) h; rwa [ba_toList] at this, fun h => by subst h; rfl⟩
theorem jixB_len {nm : BL} : jixB nm ↔ (nm.length = 0 ∨ ¬ runl (ba nm) 0 = nm.length ∨ (1 < nm.length ∧ (bat (ba nm) 0).toNat = 48) ∨ 18 < nm.length) := by unfold jixB; rw [List.length_eq_zero_iff]
theorem ridx_c (nm : BL) (n : Nat) (e : Bool) (σ : List AO) (hs : nm.length ≤ 1000000) (hn : n ≤ 1000000000) : ACalls Tryz.prog 47 [.str (ba nm), .int .i64 (n : Int), .bool e] σ (Ret (.tup [.int .i64 (jixN nm n e), .bool (jixO nm n e)]) σ) := by
 refine ACalls_body Tryz.func47 rfl Tryz.ntmps47 (res2 Tryz.results47) (Nat.le_of_ble_eq_true rfl) (fun hcl hal => ?_)
 have hbs := ba_size nm
 refine zw2 ?_
 refine AWp_join (ι := Unit) (fun b => ¬ (e = true ∧ nm = [45])) (fun b => ⟨[], [(0, .str (ba nm)), (1, .int .i64 (n : Int)), (2, .bool e), (6, .int .i64 0), (7, .bool false)]⟩) (fun b => σ) ?_ (fun b hj => ?_)
 ·skip
  refine zu2 ?_
  refine zsp 11 rfl (fun h1 => ?_) fun h1 => ?_
  ·rw [h1]; replace h1 := zcl h1
   refine zv3 ?_
   refine AWp_cond rfl (fun h2 => ?_) (fun h2 => ?_)
   ·(try rw [h2]); replace h2 := zcl h2
    refine zw3 ?_
    refine zrt ?_
    obtain ⟨q1, q2⟩ := jix_minus (n := n) (e := true) rfl (ba_minus ▸ h2)
    rw [q1, q2]
    exact ResQ_20 rfl rfl hcl (by simp [AV.lt, AV.ltL]) (Ret_of rfl)
   ·(try rw [h2]); replace h2 := zcl h2
    refine AWp_skip ?_
    exact ⟨(), (fun x => h2 (ba_minus ▸ x.2)), ⟨rfl, rfl, rfl, rfl, rfl, rfl, trivial⟩, rfl⟩
  ·rw [h1]; replace h1 := zcl h1
   refine zv3 ?_
   refine AWp_condF rfl ?_
   refine AWp_skip ?_
   exact ⟨(), (fun x => by cases x.1), ⟨rfl, rfl, rfl, rfl, rfl, rfl, trivial⟩, rfl⟩
 ·skip
  have hj0 := hj
  clear hj
  refine AWp_seq ?_
  refine AWp_join (ι := Bool) (fun b => b = decide (jixB nm)) (fun b => ⟨[], [(0, .str (ba nm)), (1, .int .i64 (n : Int)), (2, .bool e), (6, .int .i64 0), (7, .bool false), (39, .bool b)]⟩) (fun b => σ) ?_ (fun b hj => ?_)
  ·skip
   refine AWp_regL ?_
   refine zg3 ?_
   refine zsp 18 rfl (fun h3 => ?_) fun h3 => ?_
   ·rw [h3]; replace h3 := zcl h3
    refine zg20 ?_
    refine zg1 ?_
    refine zon ?_
    refine ⟨_, ?_, ⟨rfl, rfl, rfl, rfl, rfl, rfl, rfl, trivial⟩, rfl⟩
    (try rw [ba_nil0, ← List.length_eq_zero_iff] at h3)
    (try rw [show ((0 : Int).toNat) = 0 from rfl] at h4)
    (try rw [show ((0 : Int).toNat) = 0 from rfl] at h6)
    first | exact (decide_eq_true (jixB_len.2 (by omega))).symm | exact (decide_eq_false (fun x => by have := jixB_len.1 x; omega)).symm | exact decide_eq_decide.2 (by rw [jixB_len]; omega)
   ·rw [h3]; replace h3 := zcl h3
    refine zg1 ?_
    refine ztG rfl rfl (zc rfl (run_c _ _ _ (by omega) (by omega) (by omega))) ?_
    refine zg5 ?_
    refine zsp 25 rfl (fun h4 => ?_) fun h4 => ?_
    ·rw [h4]; replace h4 := zcl h4
     refine zg10 ?_
     refine zg4 ?_
     refine zon ?_
     refine ⟨_, ?_, ⟨rfl, rfl, rfl, rfl, rfl, rfl, rfl, trivial⟩, rfl⟩
     (try rw [ba_nil0, ← List.length_eq_zero_iff] at h3)
     (try rw [show ((0 : Int).toNat) = 0 from rfl] at h4)
     (try rw [show ((0 : Int).toNat) = 0 from rfl] at h6)
     first | exact (decide_eq_true (jixB_len.2 (by omega))).symm | exact (decide_eq_false (fun x => by have := jixB_len.1 x; omega)).symm | exact decide_eq_decide.2 (by rw [jixB_len]; omega)
    ·rw [h4]; replace h4 := zcl h4
     refine zg4 ?_
     refine zsp 29 rfl (fun h5 => ?_) fun h5 => ?_
     ·rw [h5]; replace h5 := zcl h5
      refine zg6 ?_
      refine zsp 35 rfl (fun h6 => ?_) fun h6 => ?_
      ·rw [h6]; replace h6 := zcl h6
       refine zv4 ?_
       refine ⟨_, ?_, ⟨rfl, rfl, rfl, rfl, rfl, rfl, rfl, trivial⟩, rfl⟩
       (try rw [ba_nil0, ← List.length_eq_zero_iff] at h3)
       (try rw [show ((0 : Int).toNat) = 0 from rfl] at h4)
       (try rw [show ((0 : Int).toNat) = 0 from rfl] at h6)
       first | exact (decide_eq_true (jixB_len.2 (by omega))).symm | exact (decide_eq_false (fun x => by have := jixB_len.1 x; omega)).symm | exact decide_eq_decide.2 (by rw [jixB_len]; omega)
      ·rw [h6]; replace h6 := zcl h6
       refine zv4 ?_
       refine ⟨_, ?_, ⟨rfl, rfl, rfl, rfl, rfl, rfl, rfl, trivial⟩, rfl⟩
       (try rw [ba_nil0, ← List.length_eq_zero_iff] at h3)
       (try rw [show ((0 : Int).toNat) = 0 from rfl] at h4)
       (try rw [show ((0 : Int).toNat) = 0 from rfl] at h6)
       first | exact (decide_eq_true (jixB_len.2 (by omega))).symm | exact (decide_eq_false (fun x => by have := jixB_len.1 x; omega)).symm | exact decide_eq_decide.2 (by rw [jixB_len]; omega)
     ·rw [h5]; replace h5 := zcl h5
      refine zg10 ?_
      refine zon ?_
      refine ⟨_, ?_, ⟨rfl, rfl, rfl, rfl, rfl, rfl, rfl, trivial⟩, rfl⟩
      (try rw [ba_nil0, ← List.length_eq_zero_iff] at h3)
      (try rw [show ((0 : Int).toNat) = 0 from rfl] at h4)
      (try rw [show ((0 : Int).toNat) = 0 from rfl] at h6)
      first | exact (decide_eq_true (jixB_len.2 (by omega))).symm | exact (decide_eq_false (fun x => by have := jixB_len.1 x; omega)).symm | exact decide_eq_decide.2 (by rw [jixB_len]; omega)
  ·skip
   subst hj
   refine AWp_cond rfl (fun h7 => ?_) (fun h7 => ?_)
   ·(try rw [h7]); replace h7 := zcl h7
    refine zw2 ?_
    refine zrt ?_
    obtain ⟨q1, q2⟩ := jix_bad (n := n) hj0 (by simpa using h7)
    rw [q1, q2]
    exact ResQ_20 rfl rfl hcl (by simp [AV.lt, AV.ltL]) (Ret_of rfl)
   ·(try rw [h7]); replace h7 := zcl h7
    have hb : ¬ jixB nm := by simpa using h7
    obtain ⟨hd, hl0, hl18⟩ := jixB_aD hb
    have hv0 := valL_bd hd
    refine AWp_skip ?_
    refine zw1 ?_
    refine AWp_seq ?_
    refine zw1 ?_
    refine AWp_block ?_
    -- loop 0 LIVE 0:param 1:param 2:param 6:assign 7:assign 8:assign 9:assign
    refine AWp_loop (ι := Nat) (fun i => i ≤ nm.length) (fun i => ⟨[], [(0, .str (ba nm)), (1, .int .i64 (n : Int)), (2, .bool e), (6, .int .i64 0), (7, .bool false), (8, .int .i64 (valL 0 (nm.take i))), (9, .int .i64 (i : Int))]⟩) (fun i => σ) (fun i => nm.length - i) (0) (Nat.zero_le _) ?_ rfl (fun i hi => ?_)
    ·repeat' first | rfl | trivial | constructor
    refine AWp_seq ?_
    refine zw4 ?_
    refine AWp_cond rfl (fun h8 => ?_) (fun h8 => ?_)
    ·(try rw [h8]); replace h8 := zcl h8
     obtain ⟨c, hc⟩ : ∃ c, nm[i]? = some c := ⟨_, List.getElem?_eq_getElem (show i < nm.length by omega)⟩
     have hb1 := valL_take hd hl18 (show i < nm.length by omega)
     have hc256 := c.toNat_lt
     have hbc : bat (ba nm) i = c := by rw [bat_ba, List.getD_eq_getElem?_getD, hc]; rfl
     have hbt : (bat (ba nm) (i : Int).toNat).toNat = c.toNat := by rw [Int.toNat_natCast, hbc]
     refine AWp_skip ?_
     refine AWp_seq ?_
     refine AWp_block ?_
     refine AWp_regL ?_
     refine zv9 ?_
     refine AWp_regL ?_
     refine zv3 ?_
     refine ⟨i + 1, σ.length, by omega, by omega, Nat.le_refl _, ⟨rfl, rfl, rfl, rfl, rfl, rfl, ?_, rfl, trivial⟩, hcl, by simp [ltE, AV.lt], List.take_length⟩
     have hst := valL_step hc
     rw [← hbt] at hst
     rw [hst]; rfl
    ·(try rw [h8]); replace h8 := zcl h8
     have hie : i = nm.length := by omega
     subst hie
     rw [List.take_length]
     refine AWp_exit ?_
     refine AWp_seq ?_
     refine zu4 ?_
     refine zsp 57 rfl (fun h9 => ?_) fun h9 => ?_
     ·rw [h9]; replace h9 := zcl h9
      refine zv7 ?_
      refine AWp_condT rfl ?_
      refine zw3 ?_
      refine zrt ?_
      obtain ⟨q1, q2⟩ := jix_val hj0 hb hv0.1 (.inl h9)
      rw [q1, q2]
      exact ResQ_20 rfl rfl hcl (by simp [AV.lt, AV.ltL]) (Ret_of rfl)
     ·rw [h9]; replace h9 := zcl h9
      refine zg4 ?_
      refine zsp 61 rfl (fun h10 => ?_) fun h10 => ?_
      ·rw [h10]; replace h10 := zcl h10
       refine zv3 ?_
       refine AWp_cond rfl (fun h11 => ?_) (fun h11 => ?_)
       ·(try rw [h11]); replace h11 := zcl h11
        refine zw3 ?_
        refine zrt ?_
        subst h11
        obtain ⟨q1, q2⟩ := jix_val hj0 hb hv0.1 (.inr ⟨h10, rfl⟩)
        rw [q1, q2]
        exact ResQ_20 rfl rfl hcl (by simp [AV.lt, AV.ltL]) (Ret_of rfl)
       ·(try rw [h11]); replace h11 := zcl h11
        refine AWp_skip ?_
        refine zw2 ?_
        refine zrt ?_
        have he : e = false := by simpa using h11
        subst he
        obtain ⟨q1, q2⟩ := jix_big (n := n) hj0 hb (fun x => x.elim (by omega) (fun y => by cases y.2))
        rw [q1, q2]
        exact ResQ_20 rfl rfl hcl (by simp [AV.lt, AV.ltL]) (Ret_of rfl)
      ·rw [h10]; replace h10 := zcl h10
       refine zv3 ?_
       refine AWp_condF rfl ?_
       refine AWp_skip ?_
       refine zw2 ?_
       refine zrt ?_
       obtain ⟨q1, q2⟩ := jix_big hj0 hb (fun x => x.elim (by omega) (fun y => h10 y.1))
       rw [q1, q2]
       exact ResQ_20 rfl rfl hcl (by simp [AV.lt, AV.ltL]) (Ret_of rfl)
end Lg
namespace Lg
open Go
/-! ### A name of digits: strings.Trim and strconv.Atoi -/
def dgs : BL := [48, 49, 50, 51, 52, 53, 54, 55, 56, 57]
theorem dgs_isD (b : UInt8) : dgs.contains b = isD b := by
  revert b
  have h : ∀ n : Fin 256, dgs.contains (UInt8.ofNat n.val) = isD (UInt8.ofNat n.val) := by decide +kernel
  intro b
  have := h ⟨b.toNat, b.toNat_lt⟩
  simpa using this
theorem dwp_nil {p : UInt8 → Bool} {l : BL} : l.dropWhile p = [] ↔ ∀ b ∈ l, p b = true := by
  induction l with
  | nil => simp
  | cons a r ih =>
    rw [List.dropWhile_cons]
    cases h : p a with
    | true => simp [h, ih]
    | false => simp [h]
theorem trim_nil (l : BL) : Lib.trimS l dgs = [] ↔ aD l := by
  unfold Lib.trimS Lib.trimLeftS Lib.trimRightS aD
  rw [dwp_nil]
  constructor
  · intro h b hb
    rw [← dgs_isD]
    by_cases hx : b ∈ (l.reverse.dropWhile (dgs.contains ·)).reverse
    · exact h b hx
    · have hr : b ∈ l.reverse := List.mem_reverse.2 hb
      rw [← List.takeWhile_append_dropWhile (p := (dgs.contains ·)) (l := l.reverse)] at hr
      rcases List.mem_append.1 hr with h1 | h1
      · exact List.all_eq_true.1 (List.all_takeWhile (p := (dgs.contains ·)) (l := l.reverse)) b h1
      · exact absurd (List.mem_reverse.2 h1) hx
  · intro h b hb
    rw [dgs_isD]
    exact h b (List.mem_reverse.1 ((List.dropWhile_sublist _).mem (List.mem_reverse.1 hb)))
theorem aD_run {l : BL} : aD l ↔ runl (ba l) 0 = l.length := by
  rw [runl_ba]
  constructor
  · intro h
    congr 1
    induction l with
    | nil => rfl
    | cons a r ih =>
      rw [List.takeWhile_cons, if_pos (h a (List.mem_cons_self ..)), ih (fun b hb => h b (List.mem_cons_of_mem _ hb))]
  · exact aD_of_len
theorem atoi_dig {l : BL} (h : aD l) (h0 : 0 < l.length) : Lib.atoi l = some (valL 0 l) := by
  cases l with
  | nil => simp at h0
  | cons b r =>
    have hb := (isD_iff b).1 (h b (List.mem_cons_self ..))
    have n1 : ¬ (b == 45) = true := fun e => by have := eq_of_beq e; subst this; revert hb; decide
    have n2 : ¬ (b == 43) = true := fun e => by have := eq_of_beq e; subst this; revert hb; decide
    obtain ⟨h1, h2, _⟩ := valL_nat (b :: r) 0 h
    have e2 : Lib.atoi (b :: r) = (Lib.decNat (b :: r)).map fun (m : Nat) => (m : Int) := by rw [Lib.atoi, if_neg n1, if_neg n2]
    have e3 : Lib.decNat (b :: r) = Lib.decFrom 0 (b :: r) := rfl
    have e : valL ((0 : Nat) : Int) (b :: r) = valL 0 (b :: r) := rfl
    rw [e] at h1 h2
    rw [e2, e3, h1]
    simp only [Option.map_some, Option.some.injEq]
    omega
end Lg
set_option maxRecDepth 20000
set_option maxHeartbeats 4000000
namespace Go.Proofs
open Go.Shelf
def Tryz.lays160_ren : Go.Shelf.Ren := ⟨fun | 160 => 66 | 232 => 100 | 231 => 99 | 227 => 101 | 234 => 103 | 233 => 102 | 236 => 105 | 235 => 104 | 228 => 132 | 271 => 135 | 151 => 134 | 197 => 133 | 120 => 166 | 152 => 165 | 260 => 164 | 137 => 146 | 119 => 178 | 224 => 179 | 225 => 180 | 217 => 170 | 266 => 183 | n => n, fun | 9 => 9 | 4 => 4 | 3 => 3 | 5 => 5 | 117 => 143 | 116 => 142 | 0 => 0 | 124 => 146 | 21 => 21 | 105 => 174 | 46 => 148 | 119 => 212 | 139 => 215 | 138 => 214 | n => n, fun | 3 => 3 | 4 => 4 | n => n⟩
theorem Tryz.lays160 : Go.Proofs.Lays.n160 Tryz.prog Tryz.lays160_ren := {
  mixed := by kernel_rfl, f119 := Tryz.func178.trans (congrArg some (by kernel_rfl)), f120 := Tryz.func166.trans (congrArg some (by kernel_rfl)), f137 := Tryz.func146.trans (congrArg some (by kernel_rfl)), f151 := Tryz.func134.trans (congrArg some (by kernel_rfl)), f152 := Tryz.func165.trans (congrArg some (by kernel_rfl)), f160 := Tryz.func66.trans (congrArg some (by kernel_rfl)), f197 := Tryz.func133.trans (congrArg some (by kernel_rfl)), f217 := Tryz.func170.trans (congrArg some (by kernel_rfl)), f224 := Tryz.func179.trans (congrArg some (by kernel_rfl)), f225 := Tryz.func180.trans (congrArg some (by kernel_rfl)), f227 := Tryz.func101.trans (congrArg some (by kernel_rfl)), f228 := Tryz.func132.trans (congrArg some (by kernel_rfl)), f231 := Tryz.func99.trans (congrArg some (by kernel_rfl)), f232 := Tryz.func100.trans (congrArg some (by kernel_rfl)), f233 := Tryz.func102.trans (congrArg some (by kernel_rfl)), f234 := Tryz.func103.trans (congrArg some (by kernel_rfl)), f235 := Tryz.func104.trans (congrArg some (by kernel_rfl)), f236 := Tryz.func105.trans (congrArg some (by kernel_rfl)), f260 := Tryz.func164.trans (congrArg some (by kernel_rfl)), f266 := Tryz.func183.trans (congrArg some (by kernel_rfl)), f271 := Tryz.func135.trans (congrArg some (by kernel_rfl)), t0 := Tryz.underlying0, a0 := Tryz.isAgg0, z0 := Tryz.sizeOf0, v0 := Tryz.zeroValue0, t3 := Tryz.underlying3, a3 := Tryz.isAgg3, z3 := Tryz.sizeOf3, v3 := Tryz.zeroValue3, t4 := Tryz.underlying4, a4 := Tryz.isAgg4, z4 := Tryz.sizeOf4, v4 := Tryz.zeroValue4, t5 := Tryz.underlying5, a5 := Tryz.isAgg5, z5 := Tryz.sizeOf5, v5 := Tryz.zeroValue5, t9 := Tryz.underlying9, a9 := Tryz.isAgg9, z9 := Tryz.sizeOf9, v9 := Tryz.zeroValue9, t21 := Tryz.underlying21, a21 := Tryz.isAgg21, z21 := Tryz.sizeOf21, v21 := Tryz.zeroValue21, t46 := Tryz.underlying148, a46 := Tryz.isAgg148, z46 := Tryz.sizeOf148, v46 := Tryz.zeroValue148, t105 := Tryz.underlying174, a105 := Tryz.isAgg174, z105 := Tryz.sizeOf174, v105 := Tryz.zeroValue174, t116 := Tryz.underlying142, a116 := Tryz.isAgg142, z116 := Tryz.sizeOf142, t117 := Tryz.underlying143, a117 := Tryz.isAgg143, z117 := Tryz.sizeOf143, v117 := Tryz.zeroValue143, t119 := Tryz.underlying212, a119 := Tryz.isAgg212, z119 := Tryz.sizeOf212, t124 := Tryz.underlying146, a124 := Tryz.isAgg146, z124 := Tryz.sizeOf146, v124 := Tryz.zeroValue146, t138 := Tryz.underlying214, a138 := Tryz.isAgg214, z138 := Tryz.sizeOf214, v138 := Tryz.zeroValue214, t139 := Tryz.underlying215, a139 := Tryz.isAgg215, z139 := Tryz.sizeOf215, v139 := Tryz.zeroValue215, g3 := by kernel_rfl, g4 := by kernel_rfl }
def Tryz.lays172_ren : Go.Shelf.Ren := ⟨fun | 172 => 67 | 244 => 106 | 245 => 107 | 247 => 136 | 279 => 137 | 280 => 138 | 281 => 139 | 282 => 140 | 287 => 167 | 316 => 168 | 171 => 130 | 205 => 169 | 321 => 181 | 322 => 182 | 243 => 163 | 246 => 177 | 283 => 201 | 284 => 202 | 285 => 203 | 286 => 204 | 129 => 195 | 317 => 214 | 318 => 215 | 319 => 216 | 320 => 217 | 337 => 222 | 338 => 223 | n => n, fun | 9 => 9 | 3 => 3 | 75 => 35 | 76 => 109 | 4 => 4 | 5 => 5 | 167 => 177 | 37 => 102 | 0 => 0 | 85 => 178 | 2 => 2 | 168 => 180 | 53 => 197 | 175 => 198 | 46 => 148 | 210 => 201 | 127 => 139 | 145 => 221 | 143 => 219 | 21 => 21 | 171 => 239 | 173 => 241 | 212 => 250 | 51 => 234 | 20 => 20 | 213 => 251 | 232 => 258 | 233 => 259 | 80 => 106 | n => n, fun | 15 => 1 | 16 => 2 | 17 => 6 | 18 => 7 | 19 => 8 | n => n⟩
theorem Tryz.lays172 : Go.Proofs.Lays.n172 Tryz.prog Tryz.lays172_ren := {
  mixed := by kernel_rfl, f129 := Tryz.func195.trans (congrArg some (by kernel_rfl)), f171 := Tryz.func130.trans (congrArg some (by kernel_rfl)), f172 := Tryz.func67.trans (congrArg some (by kernel_rfl)), f205 := Tryz.func169.trans (congrArg some (by kernel_rfl)), f243 := Tryz.func163.trans (congrArg some (by kernel_rfl)), f244 := Tryz.func106.trans (congrArg some (by kernel_rfl)), f245 := Tryz.func107.trans (congrArg some (by kernel_rfl)), f246 := Tryz.func177.trans (congrArg some (by kernel_rfl)), f247 := Tryz.func136.trans (congrArg some (by kernel_rfl)), f279 := Tryz.func137.trans (congrArg some (by kernel_rfl)), f280 := Tryz.func138.trans (congrArg some (by kernel_rfl)), f281 := Tryz.func139.trans (congrArg some (by kernel_rfl)), f282 := Tryz.func140.trans (congrArg some (by kernel_rfl)), f283 := Tryz.func201.trans (congrArg some (by kernel_rfl)), f284 := Tryz.func202.trans (congrArg some (by kernel_rfl)), f285 := Tryz.func203.trans (congrArg some (by kernel_rfl)), f286 := Tryz.func204.trans (congrArg some (by kernel_rfl)), f287 := Tryz.func167.trans (congrArg some (by kernel_rfl)), f316 := Tryz.func168.trans (congrArg some (by kernel_rfl)), f317 := Tryz.func214.trans (congrArg some (by kernel_rfl)), f318 := Tryz.func215.trans (congrArg some (by kernel_rfl)), f319 := Tryz.func216.trans (congrArg some (by kernel_rfl)), f320 := Tryz.func217.trans (congrArg some (by kernel_rfl)), f321 := Tryz.func181.trans (congrArg some (by kernel_rfl)), f322 := Tryz.func182.trans (congrArg some (by kernel_rfl)), f337 := Tryz.func222.trans (congrArg some (by kernel_rfl)), f338 := Tryz.func223.trans (congrArg some (by kernel_rfl)), t0 := Tryz.underlying0, a0 := Tryz.isAgg0, z0 := Tryz.sizeOf0, v0 := Tryz.zeroValue0, t2 := Tryz.underlying2, a2 := Tryz.isAgg2, z2 := Tryz.sizeOf2, v2 := Tryz.zeroValue2, t3 := Tryz.underlying3, a3 := Tryz.isAgg3, z3 := Tryz.sizeOf3, v3 := Tryz.zeroValue3, t4 := Tryz.underlying4, a4 := Tryz.isAgg4, z4 := Tryz.sizeOf4, v4 := Tryz.zeroValue4, t5 := Tryz.underlying5, a5 := Tryz.isAgg5, z5 := Tryz.sizeOf5, v5 := Tryz.zeroValue5, t9 := Tryz.underlying9, a9 := Tryz.isAgg9, z9 := Tryz.sizeOf9, v9 := Tryz.zeroValue9, t20 := Tryz.underlying20, a20 := Tryz.isAgg20, z20 := Tryz.sizeOf20, v20 := Tryz.zeroValue20, t21 := Tryz.underlying21, a21 := Tryz.isAgg21, z21 := Tryz.sizeOf21, v21 := Tryz.zeroValue21, t37 := Tryz.underlying102, a37 := Tryz.isAgg102, z37 := Tryz.sizeOf102, v37 := Tryz.zeroValue102, t46 := Tryz.underlying148, a46 := Tryz.isAgg148, z46 := Tryz.sizeOf148, v46 := Tryz.zeroValue148, t51 := Tryz.underlying234, a51 := Tryz.isAgg234, z51 := Tryz.sizeOf234, v51 := Tryz.zeroValue234, t53 := Tryz.underlying197, a53 := Tryz.isAgg197, z53 := Tryz.sizeOf197, v53 := Tryz.zeroValue197, t75 := Tryz.underlying35, a75 := Tryz.isAgg35, z75 := Tryz.sizeOf35, v75 := Tryz.zeroValue35, t76 := Tryz.underlying109, a76 := Tryz.isAgg109, z76 := Tryz.sizeOf109, v76 := Tryz.zeroValue109, t85 := Tryz.underlying178, a85 := Tryz.isAgg178, z85 := Tryz.sizeOf178, v85 := Tryz.zeroValue178, t127 := Tryz.underlying139, a127 := Tryz.isAgg139, z127 := Tryz.sizeOf139, v127 := Tryz.zeroValue139, t143 := Tryz.underlying219, a143 := Tryz.isAgg219, z143 := Tryz.sizeOf219, v143 := Tryz.zeroValue219, t145 := Tryz.underlying221, a145 := Tryz.isAgg221, z145 := Tryz.sizeOf221, v145 := Tryz.zeroValue221, t167 := Tryz.underlying177, a167 := Tryz.isAgg177, z167 := Tryz.sizeOf177, v167 := Tryz.zeroValue177, t168 := Tryz.underlying180, a168 := Tryz.isAgg180, z168 := Tryz.sizeOf180, v168 := Tryz.zeroValue180, t171 := Tryz.underlying239, a171 := Tryz.isAgg239, z171 := Tryz.sizeOf239, v171 := Tryz.zeroValue239, t173 := Tryz.underlying241, a173 := Tryz.isAgg241, z173 := Tryz.sizeOf241, v173 := Tryz.zeroValue241, t175 := Tryz.underlying198, a175 := Tryz.isAgg198, z175 := Tryz.sizeOf198, v175 := Tryz.zeroValue198, t210 := Tryz.underlying201, a210 := Tryz.isAgg201, z210 := Tryz.sizeOf201, v210 := Tryz.zeroValue201, t212 := Tryz.underlying250, a212 := Tryz.isAgg250, z212 := Tryz.sizeOf250, v212 := Tryz.zeroValue250, t213 := Tryz.underlying251, a213 := Tryz.isAgg251, z213 := Tryz.sizeOf251, t232 := Tryz.underlying258, a232 := Tryz.isAgg258, z232 := Tryz.sizeOf258, v232 := Tryz.zeroValue258, t233 := Tryz.underlying259, a233 := Tryz.isAgg259, z233 := Tryz.sizeOf259, v233 := Tryz.zeroValue259, g15 := by kernel_rfl, g16 := by kernel_rfl, g17 := by kernel_rfl, g18 := by kernel_rfl, g19 := by kernel_rfl }
end Go.Proofs
namespace Lg
open Go Go.Proofs Go.RowKit
variable [GLay]
theorem trimD_c (s : ByteArray) (σ : List AO) (hs : s.size ≤ 1000000) : ACalls Tryz.prog 66 [.str s, .str ⟨#[48, 49, 50, 51, 52, 53, 54, 55, 56, 57]⟩] σ (Ret (.str ⟨(Lib.trimS s.data.toList dgs).toArray⟩) σ) :=
  ACalls_below fun st cargs g hp => by
    obtain ⟨q, qs, rfl, h1, h2⟩ := hp.inv_cons
    obtain ⟨q2, qs2, rfl, h3, h4⟩ := h2.inv_cons
    obtain rfl := h4.inv_nil
    obtain rfl := h1.inv_str
    obtain rfl := h3.inv_str
    exact ⟨_, fun _ => .str _, Any.strings_Trim_laid Tryz.lays160 (by kernel_rfl) s ⟨#[48, 49, 50, 51, 52, 53, 54, 55, 56, 57]⟩ st.w (by omega) (by decide) (ascii_of_all (by decide))⟩
theorem PW.str1' {s : CS} {b : ByteArray} {vs : List Value} (h : PW s [.str b] vs) : vs = [.string b] := by
  obtain ⟨h1, h2⟩ := h
  match vs, h1 with
  | [v], _ => rw [(h2 0 (.str b) v rfl rfl).inv_str]
theorem atoi_c (s : ByteArray) (n : Int) (σ : List AO) (hs : s.size ≤ 18) (h : Go.Lib.atoi s.data.toList = some n) : ACalls Tryz.prog 67 [.str s] σ (Ret (.tup [.int .i64 n, .nili]) σ) :=
  ACalls_below fun st cargs g hp => by
    rw [hp.str1']
    refine ⟨.tuple #[.int .i64 n, .nilIface], fun _ => ?_, (Any.strconv_Atoi Tryz.lays172 s n hs h st.w).mono ?_⟩
    rotate_left
    · rintro e w' ⟨rfl, t, rfl⟩
      exact ⟨rfl, rfl, rfl, rfl, by rw [Go.Lib.bytesWorld_size]; omega, fun j hj => Go.Lib.bytesWorld_at_old st.w _ t j hj⟩
    · exact .tup [.int .i64 n, .nili] [.int .i64 n, .nilIface] rfl (fun i c v h1 h2 => by
        match i, h1, h2 with
        | 0, h1, h2 => cases h1; cases h2; exact .int _ _
        | 1, h1, h2 => cases h1; cases h2; exact .nili)
end Lg
