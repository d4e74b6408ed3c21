import Derived.Test.YtehjmhgedbfddaaDoorLv3
import Derived.Lib.ValidLaws
set_option linter.unusedVariables false
set_option linter.unusedSimpArgs false
set_option linter.unusedSectionVars false
namespace Lg
open Go Go.Lib

/-- How many bytes the character has; 0: there is none. -/
def u8N (n b0 b1 b2 b3 : Nat) : Nat := if (decodeN n b0 b1 b2 b3).1 = 65533 ∧ (decodeN n b0 b1 b2 b3).2 = 1 then 0 else (decodeN n b0 b1 b2 b3).2
theorem u8N_1 {n b0 b1 b2 b3 : Nat} (h : b0 < 128) : u8N n b0 b1 b2 b3 = 1 := by
  have : decodeN n b0 b1 b2 b3 = (b0, 1) := by unfold decodeN; rw [if_pos h]
  simp only [u8N, this]; split <;> omega
theorem decodeN_ty (n b0 b1 b2 b3 : Nat) (h0 : ¬ b0 < 128) : (decodeN n b0 b1 b2 b3 = (65533, 1)) ∨ 2 ≤ (decodeN n b0 b1 b2 b3).2 := by
  unfold decodeN
  repeat' split
  all_goals first | (left; rfl) | (right; simp; done) | omega
theorem u8N_2 {n b0 b1 b2 b3 : Nat} (h : 192 ≤ b0) (h' : b0 < 224) : u8N n b0 b1 b2 b3 = if 1 < n ∧ (128 ≤ b1 ∧ b1 < 192) ∧ 128 ≤ 64 * (b0 - 192) + (b1 - 128) then 2 else 0 := by
  by_cases hc : 1 < n ∧ (128 ≤ b1 ∧ b1 < 192) ∧ 128 ≤ 64 * (b0 - 192) + (b1 - 128)
  · rw [if_pos hc]
    have : decodeN n b0 b1 b2 b3 = (b0 % 32 * 64 + b1 % 64, 2) := by
      unfold decodeN; rw [if_neg (by omega), if_pos (by omega), if_pos (by omega)]
    simp only [u8N, this]; split <;> omega
  · rw [if_neg hc]
    have : decodeN n b0 b1 b2 b3 = (65533, 1) := by
      unfold decodeN; rw [if_neg (by omega)]
      by_cases h1 : 1 < n ∧ b1 / 64 = 2
      · rw [if_pos (by omega), if_neg (by omega)]
      · rw [if_neg (by omega), if_neg (by omega), if_neg (by omega)]
    simp [u8N, this]
theorem u8N_3 {n b0 b1 b2 b3 v : Nat} (h : 224 ≤ b0) (h' : b0 < 240) (hv : v = 64 * (64 * (b0 - 224) + (b1 - 128)) + (b2 - 128)) :
    u8N n b0 b1 b2 b3 = if 2 < n ∧ (128 ≤ b1 ∧ b1 < 192) ∧ (128 ≤ b2 ∧ b2 < 192) ∧ 2048 ≤ v ∧ ¬ (55296 ≤ v ∧ v < 57344) then 3 else 0 := by
  by_cases hc : 2 < n ∧ (128 ≤ b1 ∧ b1 < 192) ∧ (128 ≤ b2 ∧ b2 < 192) ∧ 2048 ≤ v ∧ ¬ (55296 ≤ v ∧ v < 57344)
  · rw [if_pos hc]
    have e : b0 % 16 * 4096 + b1 % 64 * 64 + b2 % 64 = v := by omega
    have : decodeN n b0 b1 b2 b3 = (v, 3) := by
      unfold decodeN; rw [if_neg (by omega), if_neg (by omega), if_pos (by omega), e, if_pos (by omega)]
    simp only [u8N, this]; split <;> omega
  · rw [if_neg hc]
    have : decodeN n b0 b1 b2 b3 = (65533, 1) := by
      unfold decodeN; rw [if_neg (by omega), if_neg (by omega)]
      by_cases h1 : (1 < n ∧ b1 / 64 = 2) ∧ (2 < n ∧ b2 / 64 = 2)
      · have e : b0 % 16 * 4096 + b1 % 64 * 64 + b2 % 64 = v := by omega
        rw [if_pos (by omega), e, if_neg (by omega)]
      · rw [if_neg (by omega), if_neg (by omega)]
    simp [u8N, this]
theorem u8N_4 {n b0 b1 b2 b3 v : Nat} (h : 240 ≤ b0) (h' : b0 < 248) (hv : v = 64 * (64 * (64 * (b0 - 240) + (b1 - 128)) + (b2 - 128)) + (b3 - 128)) :
    u8N n b0 b1 b2 b3 = if 3 < n ∧ (128 ≤ b1 ∧ b1 < 192) ∧ (128 ≤ b2 ∧ b2 < 192) ∧ (128 ≤ b3 ∧ b3 < 192) ∧ 65536 ≤ v ∧ v ≤ 1114111 then 4 else 0 := by
  by_cases hc : 3 < n ∧ (128 ≤ b1 ∧ b1 < 192) ∧ (128 ≤ b2 ∧ b2 < 192) ∧ (128 ≤ b3 ∧ b3 < 192) ∧ 65536 ≤ v ∧ v ≤ 1114111
  · rw [if_pos hc]
    have e : b0 % 8 * 262144 + b1 % 64 * 4096 + b2 % 64 * 64 + b3 % 64 = v := by omega
    have : decodeN n b0 b1 b2 b3 = (v, 4) := by
      unfold decodeN; rw [if_neg (by omega), if_neg (by omega), if_neg (by omega), if_pos (by omega), e, if_pos (by omega)]
    simp only [u8N, this]; split <;> omega
  · rw [if_neg hc]
    have : decodeN n b0 b1 b2 b3 = (65533, 1) := by
      unfold decodeN; rw [if_neg (by omega), if_neg (by omega), if_neg (by omega)]
      by_cases h1 : (1 < n ∧ b1 / 64 = 2) ∧ (2 < n ∧ b2 / 64 = 2) ∧ (3 < n ∧ b3 / 64 = 2)
      · have e : b0 % 8 * 262144 + b1 % 64 * 4096 + b2 % 64 * 64 + b3 % 64 = v := by omega
        rw [if_pos (by omega), e, if_neg (by omega)]
      · rw [if_neg (by omega)]
    simp [u8N, this]
theorem u8N_0 {n b0 b1 b2 b3 : Nat} (h : (128 ≤ b0 ∧ b0 < 192) ∨ 248 ≤ b0) (h' : b0 < 256) : u8N n b0 b1 b2 b3 = 0 := by
  have : decodeN n b0 b1 b2 b3 = (65533, 1) := decodeN_bad n b0 b1 b2 b3 (by omega)
  simp [u8N, this]
/-- The same at a place of a text. -/
def u8 (s : ByteArray) (a : Nat) : Nat := u8N (s.size - a) (bat s a).toNat (bat s (a + 1)).toNat (bat s (a + 2)).toNat (bat s (a + 3)).toNat
theorem decode_bat (s : ByteArray) (a : Nat) : decodeL (s.data.toList.drop a) = decodeN (s.size - a) (bat s a).toNat (bat s (a + 1)).toNat (bat s (a + 2)).toNat (bat s (a + 3)).toNat := by
  have hg : ∀ k, (s.data.toList.drop a).getD k 0 = bat s (a + k) := fun k => by simp [bat, List.getD, List.getElem?_drop]
  rw [decodeL_N, hg, hg, hg, hg, List.length_drop, Array.length_toList]; rfl
/-- UTF-8 from a place on. -/
def utfFrom (s : ByteArray) (a : Nat) : Bool := validD (s.data.toList.drop a)
theorem utfFrom_end {s : ByteArray} {a : Nat} (h : s.size ≤ a) : utfFrom s a = true := by
  have : s.data.toList.drop a = [] := List.drop_eq_nil_of_le (by rw [Array.length_toList]; exact h)
  rw [utfFrom, this]; rfl
theorem utfFrom_step {s : ByteArray} {a : Nat} (h : a < s.size) : utfFrom s a = if u8 s a = 0 then false else utfFrom s (a + u8 s a) := by
  have hne : s.data.toList.drop a ≠ [] := by
    intro e
    have := congrArg List.length e
    rw [List.length_drop, Array.length_toList] at this
    have h' : a < s.data.size := h
    simp at this; omega
  unfold utfFrom
  rw [validD_step _ hne, decode_bat]
  have hw := decodeL_width (s.data.toList.drop a)
  rw [decode_bat] at hw
  unfold u8 u8N
  by_cases hc : (decodeN (s.size - a) (bat s a).toNat (bat s (a + 1)).toNat (bat s (a + 2)).toNat (bat s (a + 3)).toNat).1 = 65533 ∧ (decodeN (s.size - a) (bat s a).toNat (bat s (a + 1)).toNat (bat s (a + 2)).toNat (bat s (a + 3)).toNat).2 = 1
  · rw [if_pos hc, if_pos hc, if_pos rfl]
  · rw [if_neg hc, if_neg hc, if_neg (by omega), List.drop_drop]
theorem u8_le {s : ByteArray} {a : Nat} (h : a < s.size) : a + u8 s a ≤ s.size := by
  unfold u8
  by_cases h0 : (bat s a).toNat < 128
  · rw [u8N_1 h0]; omega
  by_cases h1 : (bat s a).toNat < 192 ∨ 248 ≤ (bat s a).toNat
  · rw [u8N_0 (by omega) (bat s a).toNat_lt]; omega
  by_cases h2 : (bat s a).toNat < 224
  · rw [u8N_2 (by omega) h2]; split <;> omega
  by_cases h3 : (bat s a).toNat < 240
  · rw [u8N_3 (by omega) h3 rfl]; split <;> omega
  · rw [u8N_4 (by omega) (by omega) rfl]; split <;> omega
end Lg
namespace Lg
open Go
/-- The reference's own: what a kind lets be. -/
def jbad (v : JV) : Bool := (v.b && !decide (v.kind = 1)) || (!decide (v.n.digits = ⟨#[]⟩) && !decide (v.kind = 2)) || (!decide (v.s = ⟨#[]⟩) && !decide (v.kind = 3)) || (!decide (v.l = []) && !decide (v.kind = 4)) || (!decide (v.m = []) && !decide (v.kind = 5))
theorem jbad_eq {v : JV} (h : NumMay v.n) : jbad v = !jbare v := by
  have hz : v.n.z = decide (v.n.digits = ⟨#[]⟩) := by
    unfold JNum.z
    rcases h with ⟨h1, h2, h3⟩ | ⟨h1, _⟩
    · simp [h1, h2, h3]
    · simp [h1]
  unfold jbad jbare
  rw [hz]
  simp only [List.length_eq_zero_iff]
  cases v.b <;> cases decide (v.kind = 1) <;> cases decide (v.n.digits = ⟨#[]⟩) <;> cases decide (v.kind = 2) <;> cases decide (v.s = ⟨#[]⟩) <;> cases decide (v.kind = 3) <;> cases decide (v.l = []) <;> cases decide (v.kind = 4) <;> cases decide (v.m = []) <;> cases decide (v.kind = 5) <;> rfl
end Lg
