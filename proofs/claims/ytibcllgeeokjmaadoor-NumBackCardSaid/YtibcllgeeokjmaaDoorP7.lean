/- A part of the proof of NumBack: what is shown is parsed; numbers are ordered; a count is as it counts: N10 Ln10 Ln11 Ln12 Ln13 N11 N12 VbN VNb. -/
import Derived.Test.YtibcllgeeokjmaaDoorP6
import Derived.Test.YtibcllgeeokjmaaDoorP3
import Derived.Test.YtibcllgeeokjmaaDoorProg
import Derived.Test.YtibcllgeeokjmaaDoorRows
import Derived.Lib.LaidTab
import Derived.Lib.LaidIn
import Derived.LaidMore
import Derived.Lay
import Derived.ProofKit
import Derived.OpenShut
import Derived.Stop.Joined
import Derived.Stop.LaidErr
import Derived.Deep.Strs
set_option linter.unusedVariables false
set_option linter.unusedSimpArgs false
set_option linter.unusedSectionVars false
set_option maxRecDepth 20000
set_option maxHeartbeats 4000000
namespace Lg
open Go Go.Proofs Go.RowKit
variable [GLay] [S10]


theorem pof_c (k : Int) (σ : List AO) (h0 : 0 ≤ k) (h1 : k ≤ 1000000000000) : ACalls Tryd.prog 9 [.int .i64 k] σ (Ret (.agg (ncells (pNum (Lib.itoa k)).1)) σ) := by
  refine ACalls_bodyC Tryd.func9 rfl Tryd.ntmps9 (by rw [Tryd.results9]; exact (.ck Tryd.isAgg24 Tryd.sizeOf24 .nil)) (Nat.le_of_ble_eq_true rfl) (fun hcl hal => ?_)
  have hsz := itoa_size (n := k) (by omega) (by omega)
  refine AWp_seq ?_
  -- region 0 num.go:119
  refine AWp_regL ?_
  refine st rfl rfl rfl (op_alloc0 (cs := [_, _, _]) rfl Tryd.zeroValue24 rfl) ?_
  refine AOps_nil ?_
  refine AWp_seq ?_
  -- region 1 num.go:120
  refine AWp_regL ?_
  refine st rfl rfl rfl (op_moveO rfl rfl) ?_
  refine st rfl rfl rfl (op_callF rfl rfl rfl Tryd.func24 rfl rfl (itoa_c k _ (by omega) (by omega))) ?_
  refine st rfl rfl rfl (op_callF rfl rfl rfl Tryd.func6 rfl rfl (pparse_c (Lib.itoa k) _ (by rw [← ba_size]; exact Nat.le_trans hsz (by omega)))) ?_
  refine st rfl rfl rfl (op_moveO rfl rfl) ?_
  refine st rfl rfl rfl (op_extract rfl rfl rfl) ?_
  refine st rfl rfl rfl (op_extract rfl rfl rfl) ?_
  refine st rfl rfl rfl (op_allocO (cs := [_, _, _]) 1 rfl rfl Tryd.zeroValue24 rfl) ?_
  refine stN rfl rfl ((by first | exact op_storeO (r := [_, _, _]) rfl Tryd.sizeOf24 rfl rfl rfl rfl rfl (by decide) | exact op_storeP (r := [_, _, _]) rfl Tryd.sizeOf24 rfl rfl rfl (by assumption) rfl (by decide))) ?_
  refine st rfl rfl rfl (op_assignO rfl rfl) ?_
  refine AOps_nil ?_
  refine AWp_seq ?_
  -- region 2 num.go:121
  refine AWp_regL ?_
  refine st rfl rfl rfl (op_loadK (cs := [_, _, _]) rfl Tryd.isAgg24 Tryd.sizeOf24 (by first | exact ldv_own rfl rfl | exact ldv_pp rfl | exact ldv_old (by assumption) rfl | exact ldv_ptr (by assumption) rfl)) ?_
  refine stN rfl rfl ((by first | exact op_storeO (r := [_, _, _]) rfl Tryd.sizeOf24 rfl rfl rfl rfl rfl (by decide) | exact op_storeP (r := [_, _, _]) rfl Tryd.sizeOf24 rfl rfl rfl (by assumption) rfl (by decide))) ?_
  refine AOps_nil ?_
  refine AWp_ret ?_
  (try simp only [blockQ, thenQ])
  exact RQ_ret (rkvs_cons (rkv_ck rfl rfl rfl) rfl) hcl (by simp [rks, AV.lt, AV.ltL, ofConst1, ncells]) (Ret_of rfl)

theorem rof_c (k : Int) (σ : List AO) (h0 : 0 ≤ k) (h1 : k ≤ 1000000000000) : ACalls Tryd.prog 10 [.int .i64 k] σ (Ret (.agg (ncells (rNum (itoaB k)).1)) σ) := by
  refine ACalls_bodyC Tryd.func10 rfl Tryd.ntmps10 (by rw [Tryd.results10]; exact (.ck Tryd.isAgg24 Tryd.sizeOf24 .nil)) (Nat.le_of_ble_eq_true rfl) (fun hcl hal => ?_)
  have hsz := itoa_size (n := k) (by omega) (by omega)
  refine AWp_seq ?_
  -- region 0 ref.go:201
  refine AWp_regL ?_
  refine st rfl rfl rfl (op_alloc0 (cs := [_, _, _]) rfl Tryd.zeroValue24 rfl) ?_
  refine AOps_nil ?_
  refine AWp_seq ?_
  -- region 1 ref.go:202
  refine AWp_regL ?_
  refine st rfl rfl rfl (op_moveO rfl rfl) ?_
  refine st rfl rfl rfl (op_callF rfl rfl rfl Tryd.func25 rfl rfl (ritoa_c k _ (by omega) (by omega))) ?_
  refine st rfl rfl rfl (op_callF rfl rfl rfl Tryd.func7 rfl rfl (rnum_c (itoaB k) _ (by omega))) ?_
  refine st rfl rfl rfl (op_moveO rfl rfl) ?_
  refine st rfl rfl rfl (op_extract rfl rfl rfl) ?_
  refine st rfl rfl rfl (op_extract rfl rfl rfl) ?_
  refine st rfl rfl rfl (op_allocO (cs := [_, _, _]) 1 rfl rfl Tryd.zeroValue24 rfl) ?_
  refine stN rfl rfl ((by first | exact op_storeO (r := [_, _, _]) rfl Tryd.sizeOf24 rfl rfl rfl rfl rfl (by decide) | exact op_storeP (r := [_, _, _]) rfl Tryd.sizeOf24 rfl rfl rfl (by assumption) rfl (by decide))) ?_
  refine st rfl rfl rfl (op_assignO rfl rfl) ?_
  refine AOps_nil ?_
  refine AWp_seq ?_
  -- region 2 ref.go:203
  refine AWp_regL ?_
  refine st rfl rfl rfl (op_loadK (cs := [_, _, _]) rfl Tryd.isAgg24 Tryd.sizeOf24 (by first | exact ldv_own rfl rfl | exact ldv_pp rfl | exact ldv_old (by assumption) rfl | exact ldv_ptr (by assumption) rfl)) ?_
  refine stN rfl rfl ((by first | exact op_storeO (r := [_, _, _]) rfl Tryd.sizeOf24 rfl rfl rfl rfl rfl (by decide) | exact op_storeP (r := [_, _, _]) rfl Tryd.sizeOf24 rfl rfl rfl (by assumption) rfl (by decide))) ?_
  refine AOps_nil ?_
  refine AWp_ret ?_
  (try simp only [blockQ, thenQ])
  exact RQ_ret (rkvs_cons (rkv_ck rfl rfl rfl) rfl) hcl (by simp [rks, AV.lt, AV.ltL, ofConst1, ncells]) (Ret_of rfl)

theorem code_0 (σ : List AO) : ACalls Tryd.prog 8 [.nili] σ (Ret (.int .i64 0) σ) := by
  refine ACalls_body Tryd.func8 rfl Tryd.ntmps8 (res1 Tryd.results8) (Nat.le_of_ble_eq_true rfl) (fun hcl hal => ?_)
  refine AWp_seq ?_
  -- region 0 help.go:12
  refine AWp_regL ?_
  refine st rfl rfl rfl (op_assignO rfl rfl) ?_
  refine AOps_nil ?_
  refine AWp_seq ?_
  refine AWp_seq ?_
  -- region 1 help.go:13
  refine AWp_regL ?_
  refine st rfl rfl rfl (op_moveO rfl rfl) ?_
  refine st rfl rfl rfl ((by first | exact op_eqIN rfl Tryd.underlying26 rfl | exact op_eqINil rfl Tryd.underlying26 rfl)) ?_
  refine AOps_nil ?_
  refine AWp_cond rfl (fun h1 => ?_) (fun h1 => ?_)
  · (try rw [h1]); (try simp only [decide_eq_true_eq, decide_eq_false_iff_not, Bool.not_eq_true', Bool.not_eq_false', Int.not_lt, Int.not_le, Bool.not_true, Bool.not_false, Int.toNat_natCast, bne_iff_ne, beq_iff_eq, beq_eq_false_iff_ne, ne_eq, Decidable.not_not] at h1)
    refine AWp_seq ?_
    -- region 2 help.go:14
    refine AWp_regL ?_
    refine st rfl rfl rfl (op_assignO rfl rfl) ?_
    refine AOps_nil ?_
    refine AWp_ret ?_
    (try simp only [blockQ, thenQ])
    exact ResQ_10 rfl hcl trivial (Ret_of rfl)
  · (try rw [h1]); (try simp only [decide_eq_true_eq, decide_eq_false_iff_not, Bool.not_eq_true', Bool.not_eq_false', Int.not_lt, Int.not_le, Bool.not_true, Bool.not_false, Int.toNat_natCast, bne_iff_ne, beq_iff_eq, beq_eq_false_iff_ne, ne_eq, Decidable.not_not] at h1)
    cases h1

theorem code_k (k : Int) (σ : List AO) (h0 : 1 ≤ k) (h14 : k ≤ 14) : ACalls Tryd.prog 8 [.iface 41 (.int .i64 k)] σ (Ret (.int .i64 k) σ) := by
  refine ACalls_body Tryd.func8 rfl Tryd.ntmps8 (res1 Tryd.results8) (Nat.le_of_ble_eq_true rfl) (fun hcl hal => ?_)
  refine AWp_seq ?_
  -- region 0 help.go:12
  refine AWp_regL ?_
  refine st rfl rfl rfl (op_assignO rfl rfl) ?_
  refine AOps_nil ?_
  refine AWp_seq ?_
  refine AWp_seq ?_
  -- region 1 help.go:13
  refine AWp_regL ?_
  refine st rfl rfl rfl (op_moveO rfl rfl) ?_
  refine st rfl rfl rfl ((by first | exact op_eqIN rfl Tryd.underlying26 rfl | exact op_eqINil rfl Tryd.underlying26 rfl)) ?_
  refine AOps_nil ?_
  refine AWp_cond rfl (fun h1 => ?_) (fun h1 => ?_)
  · (try rw [h1]); (try simp only [decide_eq_true_eq, decide_eq_false_iff_not, Bool.not_eq_true', Bool.not_eq_false', Int.not_lt, Int.not_le, Bool.not_true, Bool.not_false, Int.toNat_natCast, bne_iff_ne, beq_iff_eq, beq_eq_false_iff_ne, ne_eq, Decidable.not_not] at h1)
    cases h1
  · (try rw [h1]); (try simp only [decide_eq_true_eq, decide_eq_false_iff_not, Bool.not_eq_true', Bool.not_eq_false', Int.not_lt, Int.not_le, Bool.not_true, Bool.not_false, Int.toNat_natCast, bne_iff_ne, beq_iff_eq, beq_eq_false_iff_ne, ne_eq, Decidable.not_not] at h1)
    refine AWp_skip ?_
    refine AWp_seq ?_
    refine AWp_seq ?_
    -- region 3 help.go:16
    refine AWp_regL ?_
    refine st rfl rfl rfl (op_assignO rfl rfl) ?_
    refine AOps_nil ?_
    refine AWp_block ?_
    -- loop 0 LIVE 0:param 2:assign 3:assign
    refine AWp_loop (ι := Nat) (fun i => 1 ≤ i ∧ (i : Int) ≤ k) (fun i => ⟨[], [(0, .iface 41 (.int .i64 k)), (2, .int .i64 0), (3, .int .i64 (i : Int))]⟩) (fun i => σ) (fun i => 15 - i) (1) (⟨by omega, by omega⟩) ?_ rfl (fun i hi => ?_)
    · exact ⟨rfl, rfl, rfl, rfl, trivial⟩
    obtain ⟨hi1, hi2⟩ := hi
    refine AWp_seq ?_
    refine AWp_seq ?_
    -- region 4 help.go:16
    refine AWp_regL ?_
    refine st rfl rfl rfl (op_moveO rfl rfl) ?_
    refine st rfl rfl rfl (op_leq rfl rfl rfl) ?_
    refine AOps_nil ?_
    refine AWp_cond rfl (fun h2 => ?_) (fun h2 => ?_)
    · (try rw [h2]); (try simp only [decide_eq_true_eq, decide_eq_false_iff_not, Bool.not_eq_true', Bool.not_eq_false', Int.not_lt, Int.not_le, Bool.not_true, Bool.not_false, Int.toNat_natCast, bne_iff_ne, beq_iff_eq, beq_eq_false_iff_ne, ne_eq, Decidable.not_not] at h2)
      refine AWp_skip ?_
      refine AWp_seq ?_
      refine AWp_block ?_
      refine AWp_seq ?_
      -- region 6 help.go:17
      refine AWp_regL ?_
      refine st rfl rfl rfl (op_moveO rfl rfl) ?_
      refine st rfl rfl rfl (op_moveO rfl rfl) ?_
      refine st rfl rfl rfl (op_makeInterface rfl Tryd.underlying41 (by intro ms h; cases h) rfl) ?_
      refine st rfl rfl rfl (op_eqII rfl Tryd.underlying26 (by kernel_rfl) Tryd.underlying41 rfl rfl) ?_
      refine AOps_nil ?_
      refine AWp_cond rfl (fun h3 => ?_) (fun h3 => ?_)
      · (try rw [h3]); (try simp only [decide_eq_true_eq, decide_eq_false_iff_not, Bool.not_eq_true', Bool.not_eq_false', Int.not_lt, Int.not_le, Bool.not_true, Bool.not_false, Int.toNat_natCast, bne_iff_ne, beq_iff_eq, beq_eq_false_iff_ne, ne_eq, Decidable.not_not] at h3)
        refine AWp_seq ?_
        -- region 7 help.go:18
        refine AWp_regL ?_
        refine st rfl rfl rfl (op_moveO rfl rfl) ?_
        refine st rfl rfl rfl (op_assignO rfl rfl) ?_
        refine AOps_nil ?_
        refine AWp_ret ?_
        (try simp only [blockQ, thenQ])
        refine ResQ_10 rfl hcl trivial (Ret_of ?_)
        congr 1; omega
      · (try rw [h3]); (try simp only [decide_eq_true_eq, decide_eq_false_iff_not, Bool.not_eq_true', Bool.not_eq_false', Int.not_lt, Int.not_le, Bool.not_true, Bool.not_false, Int.toNat_natCast, bne_iff_ne, beq_iff_eq, beq_eq_false_iff_ne, ne_eq, Decidable.not_not] at h3)
        refine AWp_skip ?_
        -- region 5 help.go:16
        refine AWp_regL ?_
        refine st rfl rfl rfl (op_moveO rfl rfl) ?_
        refine st rfl rfl rfl (op_add64 rfl rfl rfl (by omega) (by omega)) ?_
        refine st rfl rfl rfl (op_assignO rfl rfl) ?_
        refine AOps_nil ?_
        refine ⟨i + 1, σ.length, ⟨by omega, by omega⟩, by omega, Nat.le_refl _, ⟨rfl, rfl, rfl, ?_, trivial⟩, hcl, ?_, List.take_length⟩
        · rfl
        · simp [ltE, AV.lt]
    · (try rw [h2]); (try simp only [decide_eq_true_eq, decide_eq_false_iff_not, Bool.not_eq_true', Bool.not_eq_false', Int.not_lt, Int.not_le, Bool.not_true, Bool.not_false, Int.toNat_natCast, bne_iff_ne, beq_iff_eq, beq_eq_false_iff_ne, ne_eq, Decidable.not_not] at h2)
      refine AWp_exit ?_
      refine AWp_seq ?_
      -- region 8 help.go:21
      refine AWp_regL ?_
      refine st rfl rfl rfl (op_assignO rfl rfl) ?_
      refine AOps_nil ?_
      refine AWp_ret ?_
      (try simp only [blockQ, thenQ])
      exfalso; omega

end Lg
namespace Lg
open Go
/-! ### Digits side by side -/
def cmpL : BL → BL → Int
  | [], [] => 0
  | [], _ :: _ => -1
  | _ :: _, [] => 1
  | a :: x, b :: y => if a.toNat < b.toNat then -1 else if b.toNat < a.toNat then 1 else cmpL x y
theorem cmpL_cases : ∀ (x y : BL), cmpL x y = 0 ∨ cmpL x y = -1 ∨ cmpL x y = 1
  | [], [] => .inl rfl
  | [], _ :: _ => .inr (.inl rfl)
  | _ :: _, [] => .inr (.inr rfl)
  | a :: x, b :: y => by
    simp only [cmpL]; split
    · exact .inr (.inl rfl)
    · split
      · exact .inr (.inr rfl)
      · exact cmpL_cases x y
theorem cmpL_less : ∀ (x y : BL), Op.bytesLess x y = decide (cmpL x y = -1)
  | [], [] => rfl
  | [], _ :: _ => rfl
  | _ :: _, [] => rfl
  | a :: x, b :: y => by
    simp only [Op.bytesLess, cmpL, cmpL_less x y]
    by_cases h : a.toNat < b.toNat
    · have h' : a < b := h
      simp [h, h']
    · have h' : ¬ a < b := h
      by_cases h2 : b.toNat < a.toNat
      · have h3 : ¬ a = b := fun e => by rw [e] at h2; omega
        simp [h, h', h2, h3]
      · have h3 : a = b := UInt8.toNat_inj.1 (by omega)
        subst h3; simp [h']
theorem blt_cmp (x y : BL) : blt (ba x) (ba y) = decide (cmpL x y = -1) := by
  unfold blt
  rw [ByteArray.toList_eq, ByteArray.toList_eq, ba_toList, ba_toList, cmpL_less]
theorem cmpL_eq : ∀ (x y : BL), cmpL x y = 0 ↔ x = y
  | [], [] => by simp [cmpL]
  | [], _ :: _ => by simp [cmpL]
  | _ :: _, [] => by simp [cmpL]
  | a :: x, b :: y => by
    simp only [cmpL]
    by_cases h : a.toNat < b.toNat
    · simp only [if_pos h]
      constructor
      · intro e; omega
      · intro e; rw [(List.cons.inj e).1] at h; omega
    · by_cases h2 : b.toNat < a.toNat
      · simp only [if_neg h, if_pos h2]
        constructor
        · intro e; omega
        · intro e; rw [(List.cons.inj e).1] at h2; omega
      · have h3 : a = b := UInt8.toNat_inj.1 (by omega)
        subst h3
        simp [cmpL_eq x y]
theorem cmpL_anti : ∀ (x y : BL), cmpL y x = - cmpL x y
  | [], [] => rfl
  | [], _ :: _ => rfl
  | _ :: _, [] => rfl
  | a :: x, b :: y => by
    simp only [cmpL]
    by_cases h : a.toNat < b.toNat
    · rw [if_pos h, if_neg (by omega), if_pos h]; rfl
    · by_cases h2 : b.toNat < a.toNat
      · simp [h, h2]
      · rw [if_neg h, if_neg h2, if_neg h2, if_neg h]; exact cmpL_anti x y
theorem cmpL_trans : ∀ (x y z : BL), cmpL x y ≤ 0 → cmpL y z ≤ 0 → cmpL x z ≤ 0
  | [], _, [], _, _ => by simp [cmpL]
  | [], _, _ :: _, _, _ => by simp [cmpL]
  | _ :: _, [], _, h, _ => by simp [cmpL] at h
  | _ :: _, _ :: _, [], _, k => by simp [cmpL] at k
  | a :: x, b :: y, c :: z, h, k => by
    simp only [cmpL] at h k ⊢
    by_cases h1 : a.toNat < b.toNat
    · by_cases h2 : c.toNat < b.toNat
      · rw [if_neg (by omega), if_pos h2] at k; omega
      · rw [if_pos (by omega)]; omega
    · by_cases h3 : b.toNat < a.toNat
      · rw [if_neg h1, if_pos h3] at h; omega
      · rw [if_neg h1, if_neg h3] at h
        by_cases h4 : b.toNat < c.toNat
        · rw [if_pos (by omega)]; omega
        · by_cases h5 : c.toNat < b.toNat
          · rw [if_neg h4, if_pos h5] at k; omega
          · rw [if_neg h4, if_neg h5] at k
            rw [if_neg (by omega), if_neg (by omega)]
            exact cmpL_trans x y z h k
theorem cmpS_cmpL (x y : BL) : cmpS (ba x) (ba y) = cmpL x y := by
  unfold cmpS
  rw [blt_cmp]
  rcases cmpL_cases x y with h | h | h
  · have e := (cmpL_eq x y).1 h
    subst e
    simp [h]
  · simp [h]
  · have e : ¬ ba x = ba y := fun e => by
      have := (cmpL_eq x y).2 (ba_inj.1 e); omega
    simp [h, e]
theorem cmpL_app : ∀ (x y z : BL), x.length = y.length → cmpL (x ++ z) (y ++ z) = cmpL x y
  | [], [], z, _ => (cmpL_eq z z).2 rfl
  | [], _ :: _, z, h => by simp at h
  | _ :: _, [], z, h => by simp at h
  | a :: x, b :: y, z, h => by
    simp only [List.cons_append, cmpL]
    rw [cmpL_app x y z (by simpa using h)]
theorem zero_less : ∀ (b : BL), aD b → b ≠ [] → b.getLast? ≠ some 48 → cmpL (List.replicate b.length 48) b = -1
  | [], _, h, _ => absurd rfl h
  | c :: r, hd, _, hl => by
    obtain ⟨hc, hr⟩ := aD_cons hd
    simp only [List.length_cons, List.replicate_succ, cmpL]
    have e48 : (48 : UInt8).toNat = 48 := rfl
    by_cases h : (48 : UInt8).toNat < c.toNat
    · rw [if_pos h]
    · rw [if_neg h, if_neg (by omega)]
      have hc48 : c = 48 := UInt8.toNat_inj.1 (by omega)
      subst hc48
      have hne : r ≠ [] := by rintro rfl; exact hl rfl
      exact zero_less r hr hne (fun e => hl (by rw [List.getLast?_cons, e]; rfl))
theorem pad : ∀ (a b : BL) (k : Nat), aD b → b.getLast? ≠ some 48 → a.length + k = b.length → cmpL (a ++ List.replicate k 48) b = cmpL a b
  | [], b, k, hd, hl, he => by
    cases k with
    | zero =>
      have : b = [] := List.eq_nil_of_length_eq_zero (by simpa using he.symm)
      subst this; rfl
    | succ k =>
      have hk : b.length = k + 1 := by simpa using he.symm
      have hne : b ≠ [] := by rintro rfl; simp at hk
      rw [List.nil_append, ← hk, zero_less b hd hne hl]
      cases b with
      | nil => exact absurd rfl hne
      | cons => rfl
  | x :: xs, [], k, hd, hl, he => by simp at he
  | x :: xs, y :: ys, k, hd, hl, he => by
    simp only [List.cons_append, cmpL]
    rw [pad xs ys k (aD_cons hd).2 (fun e => hl (by rw [List.getLast?_cons, e]; rfl)) (by simp only [List.length_cons] at he; omega)]
/-- Filled up to one length they stand as before. -/
theorem pad2 {a b : BL} {i j : Nat} (ha : aD a) (hb : aD b) (la : a.getLast? ≠ some 48) (lb : b.getLast? ≠ some 48) (he : a.length + i = b.length + j) :
    cmpL (a ++ List.replicate i 48) (b ++ List.replicate j 48) = cmpL a b := by
  rcases Nat.le_total j i with h | h
  · have e : List.replicate i (48 : UInt8) = List.replicate (i - j) 48 ++ List.replicate j 48 := by rw [List.replicate_append_replicate]; congr 1; omega
    rw [e, ← List.append_assoc, cmpL_app _ _ _ (by rw [List.length_append, List.length_replicate]; omega)]
    exact pad a b (i - j) hb lb (by omega)
  · have e : List.replicate j (48 : UInt8) = List.replicate (j - i) 48 ++ List.replicate i 48 := by rw [List.replicate_append_replicate]; congr 1; omega
    rw [e, ← List.append_assoc, cmpL_app _ _ _ (by rw [List.length_append, List.length_replicate]; omega), cmpL_anti _ a]
    have := pad b a (j - i) ha la (by omega)
    rw [cmpL_anti a] 
    have h2 := cmpL_anti (b ++ List.replicate (j - i) 48) a
    have h3 := cmpL_anti b a
    omega
end Lg
namespace Lg
open Go
/-! ### Numbers that may be -/
structure JOk (n : JNum) (d : BL) : Prop where
  dig : n.digits = ba d
  ne : d ≠ []
  ad : aD d
  hd : d.head? ≠ some 48
  lst : d.getLast? ≠ some 48
  len : d.length ≤ 60
  lo : -1000 ≤ n.exp
  hi : n.exp ≤ 1000
def JMay (n : JNum) : Prop := n = {} ∨ ∃ d, JOk n d
theorem JOk.nil {n : JNum} {d : BL} (h : JOk n d) : ¬ n.digits = ⟨#[]⟩ := fun e => h.ne (ba_nil.1 (h.dig ▸ e))
theorem JOk.size {n : JNum} {d : BL} (h : JOk n d) : n.digits.size = d.length := by rw [h.dig, ba_size]
theorem JMay.bnd {n : JNum} (h : JMay n) : n.digits.size ≤ 1000000 ∧ -1000000 ≤ n.exp ∧ n.exp ≤ 1000000 := by
  rcases h with rfl | ⟨d, h⟩
  · exact ⟨by decide, by decide, by decide⟩
  · have := h.size; have := h.len; have := h.lo; have := h.hi
    omega
theorem aD_cutR {l : BL} (h : aD l) : aD (cutR l) := fun b hb => by
  rw [cutR_pre] at hb
  exact h b (List.mem_of_mem_take hb)
theorem aD_cutL {l : BL} (h : aD l) : aD (cutL l) := fun b hb => h b ((List.dropWhile_sublist _).mem hb)
/-- What is read may be. -/
theorem pNum_may (l : BL) : JMay (pNum l).1 ∧ ((pNum l).2 = 0 ∨ (pNum l).2 = 1 ∨ (pNum l).2 = 5) ∧ ((pNum l).2 ≠ 0 → (pNum l).1 = {}) := by
  by_cases h : (pParts (strip 45 l)).2.2.2 = true
  · obtain ⟨_, _, _, _, _, had, _⟩ := gathered h false
    by_cases h2 : pAll l = []
    · rw [pNum_zero h h2]; exact ⟨.inl rfl, .inl rfl, fun _ => rfl⟩
    · by_cases h3 : 60 < (cutR (pAll l)).length ∨ 1000 < pX l ∨ pX l < -1000
      · rw [pNum_large h h2 h3]; exact ⟨.inl rfl, .inr (.inr rfl), fun _ => rfl⟩
      · rw [pNum_some h h2 h3]
        have hh := cutL_head ((pParts (strip 45 l)).1 ++ (pParts (strip 45 l)).2.1)
        have hc : cutR (pAll l) ≠ [] := fun e => h2 ((cutR_nil hh).1 e)
        refine ⟨.inr ⟨cutR (pAll l), rfl, hc, aD_cutR (aD_cutL had), ?_, ?_, by omega, by show -1000 ≤ pX l; omega, by show pX l ≤ 1000; omega⟩, .inl rfl, fun k => absurd rfl k⟩
        · rw [cutR_head hc]; exact fun e => hh 48 e rfl
        · rw [List.getLast?_eq_some_getLast hc]; exact fun e => cutR_last hc (Option.some.inj e)
  · rw [pNum_bad (by simpa using h)]; exact ⟨.inl rfl, .inr (.inl rfl), fun _ => rfl⟩
theorem whole_ok {n : JNum} (h : JMay n) : decide (0 ≤ n.exp) = rWhole n := by
  rcases h with rfl | ⟨d, h⟩
  · rfl
  · unfold rWhole; rw [decide_eq_false h.nil]; rfl
theorem jsign_zero {n : JNum} (h : n.digits = ⟨#[]⟩) : jsign n = 0 := by unfold jsign; rw [if_pos h]
theorem JOk.sign {n : JNum} {d : BL} (h : JOk n d) : jsign n = if n.neg = true then -1 else 1 := by unfold jsign; rw [if_neg h.nil]
theorem cmpI_anti (x y : Int) : cmpI y x = - cmpI x y := by unfold cmpI; split <;> split <;> (try split) <;> omega
theorem cmpI_zero (x y : Int) : cmpI x y = 0 ↔ x = y := by unfold cmpI; split <;> (try split) <;> omega
/-- Both sides' order of two numbers of digits of the same sign. -/
def kcmp (a b : JNum) (d e : BL) : Int := if cmpI (d.length + a.exp) (e.length + b.exp) = 0 then cmpL d e else cmpI (d.length + a.exp) (e.length + b.exp)
theorem kcmp_cases (a b : JNum) (d e : BL) : kcmp a b d e = 0 ∨ kcmp a b d e = -1 ∨ kcmp a b d e = 1 := by
  unfold kcmp; split
  · exact cmpL_cases d e
  · unfold cmpI; split <;> (try split) <;> simp
theorem kcmp_anti (a b : JNum) (d e : BL) : kcmp b a e d = - kcmp a b d e := by
  unfold kcmp
  rw [cmpI_anti (d.length + a.exp) (e.length + b.exp), cmpL_anti d e]
  by_cases h : cmpI (d.length + a.exp) (e.length + b.exp) = 0
  · rw [if_pos (by omega), if_pos h]
  · rw [if_neg (by omega), if_neg h]
theorem pCmp_ok {a b : JNum} {d e : BL} (ha : JOk a d) (hb : JOk b e) : pCmp a b = if a.neg = b.neg then (if a.neg = true then - kcmp a b d e else kcmp a b d e) else (if a.neg = true then -1 else 1) := by
  unfold pCmp
  rw [ha.sign, hb.sign, ha.size, hb.size, ha.dig, hb.dig, cmpS_cmpL]
  show _ = if a.neg = b.neg then (if a.neg = true then - kcmp a b d e else kcmp a b d e) else _
  unfold kcmp
  cases a.neg <;> cases b.neg <;> simp [cmpI]
theorem pCmp_zl {a b : JNum} {e : BL} (ha : a = {}) (hb : JOk b e) : pCmp a b = if b.neg = true then 1 else -1 := by
  unfold pCmp; rw [hb.sign, ha, show jsign ({} : JNum) = 0 from rfl]
  cases b.neg <;> simp [cmpI]
theorem pCmp_zr {a b : JNum} {d : BL} (ha : JOk a d) (hb : b = {}) : pCmp a b = if a.neg = true then -1 else 1 := by
  unfold pCmp; rw [ha.sign, hb, show jsign ({} : JNum) = 0 from rfl]
  cases a.neg <;> simp [cmpI]
theorem pCmp_zz : pCmp {} {} = 0 := by unfold pCmp; rw [if_pos rfl, show jsign ({} : JNum) = 0 from rfl, Int.zero_mul]
/-- a's digits with noughts. -/
theorem jexp_ok {a : JNum} {d : BL} (ha : JOk a d) (low : Int) : jexp a low = ba (d ++ List.replicate (a.exp - low).toNat 48) := by
  unfold jexp zer; rw [if_neg ha.nil, ha.dig, ba_app]
theorem lessS_ok {a b : JNum} {d e : BL} (ha : JOk a d) (hb : JOk b e) : lessS (jexp a (min a.exp b.exp)) (jexp b (min a.exp b.exp)) = decide (kcmp a b d e = -1) := by
  rw [jexp_ok ha, jexp_ok hb]
  unfold lessS kcmp
  rw [ba_size, ba_size, List.length_append, List.length_append, List.length_replicate, List.length_replicate]
  by_cases h : d.length + (a.exp - min a.exp b.exp).toNat = e.length + (b.exp - min a.exp b.exp).toNat
  · rw [if_pos h, if_pos (by rw [cmpI_zero]; omega), blt_cmp, pad2 ha.ad hb.ad ha.lst hb.lst h]
  · rw [if_neg h, if_neg (by rw [cmpI_zero]; omega)]
    refine decide_eq_decide.2 ?_
    unfold cmpI
    split
    · simp; omega
    · split <;> (constructor <;> intro hh <;> omega)
theorem rLess_ok {a b : JNum} {d e : BL} (ha : JOk a d) (hb : JOk b e) : rLess a b = if a.neg = b.neg then (if a.neg = true then decide (kcmp a b d e = 1) else decide (kcmp a b d e = -1)) else a.neg := by
  unfold rLess
  rw [lessS_ok ha hb]
  have := lessS_ok hb ha
  rw [Int.min_comm] at this
  rw [this, kcmp_anti a b]
  have : decide (- kcmp a b d e = -1) = decide (kcmp a b d e = 1) := decide_eq_decide.2 (by omega)
  rw [this]
theorem jexp_nil (low : Int) : jexp {} low = ⟨#[]⟩ := by unfold jexp; rw [if_pos rfl]
theorem jexp_pos {b : JNum} {e : BL} (hb : JOk b e) (low : Int) : 0 < (jexp b low).size := by
  rw [jexp_ok hb, ba_size, List.length_append]
  have := List.length_pos_iff.2 hb.ne
  omega
theorem lessS_l {b : JNum} {e : BL} (hb : JOk b e) (low : Int) : lessS ⟨#[]⟩ (jexp b low) = true := by
  have h := jexp_pos hb low
  have h0 : (⟨#[]⟩ : ByteArray).size = 0 := rfl
  unfold lessS; rw [if_neg (by omega)]; exact decide_eq_true (by omega)
theorem lessS_r {b : JNum} {e : BL} (hb : JOk b e) (low : Int) : lessS (jexp b low) ⟨#[]⟩ = false := by
  have h := jexp_pos hb low
  have h0 : (⟨#[]⟩ : ByteArray).size = 0 := rfl
  unfold lessS; rw [if_neg (by omega)]; exact decide_eq_false (by omega)
theorem rLess_l {b : JNum} {e : BL} (hb : JOk b e) : rLess {} b = !b.neg := by
  unfold rLess
  rw [jexp_nil, lessS_l hb, lessS_r hb]
  cases b.neg <;> rfl
theorem rLess_r {b : JNum} {e : BL} (hb : JOk b e) : rLess b {} = b.neg := by
  unfold rLess
  rw [jexp_nil, lessS_l hb, lessS_r hb]
  cases b.neg <;> rfl
theorem rLess_z : rLess {} {} = false := by
  unfold rLess
  rw [jexp_nil]
  show lessS ⟨#[]⟩ ⟨#[]⟩ = false
  unfold lessS; rw [if_pos rfl]
  exact (blt_cmp [] []).trans rfl
theorem cmp_same {a b : JNum} (ha : JMay a) (hb : JMay b) : pCmp a b = rCmp a b := by
  unfold rCmp
  rcases ha with rfl | ⟨d, ha⟩
  · rcases hb with rfl | ⟨e, hb⟩
    · rw [rLess_z, pCmp_zz]; rfl
    · rw [pCmp_zl rfl hb, rLess_l hb, rLess_r hb]; cases b.neg <;> rfl
  · rcases hb with rfl | ⟨e, hb⟩
    · rw [pCmp_zr ha rfl, rLess_l ha, rLess_r ha]; cases a.neg <;> rfl
    · rw [pCmp_ok ha hb, rLess_ok ha hb, rLess_ok hb ha, kcmp_anti a b]
      rcases kcmp_cases a b d e with h | h | h <;> rw [h] <;> cases a.neg <;> cases b.neg <;> rfl
/-! ### The order -/
theorem pCmp_anti {a b : JNum} (ha : JMay a) (hb : JMay b) : pCmp b a = - pCmp a b := by
  rcases ha with rfl | ⟨d, ha⟩
  · rcases hb with rfl | ⟨e, hb⟩
    · rw [pCmp_zz]; rfl
    · rw [pCmp_zl rfl hb, pCmp_zr hb rfl]; cases b.neg <;> rfl
  · rcases hb with rfl | ⟨e, hb⟩
    · rw [pCmp_zl rfl ha, pCmp_zr ha rfl]; cases a.neg <;> rfl
    · rw [pCmp_ok ha hb, pCmp_ok hb ha, kcmp_anti a b]
      cases a.neg <;> cases b.neg <;> simp
theorem kcmp_zero {a b : JNum} {d e : BL} : kcmp a b d e = 0 ↔ d = e ∧ a.exp = b.exp := by
  unfold kcmp
  by_cases h : cmpI (d.length + a.exp) (e.length + b.exp) = 0
  · rw [if_pos h, cmpL_eq]
    rw [cmpI_zero] at h
    constructor
    · rintro rfl; exact ⟨rfl, by omega⟩
    · exact fun h => h.1
  · rw [if_neg h]
    constructor
    · exact fun k => absurd k h
    · rintro ⟨rfl, h2⟩; rw [cmpI_zero] at h; exact absurd (by rw [h2]) h
theorem pCmp_zero {a b : JNum} (ha : JMay a) (hb : JMay b) : pCmp a b = 0 ↔ a = b := by
  rcases ha with rfl | ⟨d, ha⟩
  · rcases hb with rfl | ⟨e, hb⟩
    · simp [pCmp_zz]
    · rw [pCmp_zl rfl hb]
      constructor
      · intro h; cases hh : b.neg <;> rw [hh] at h <;> simp at h
      · intro h; exact absurd (by rw [← h]) hb.nil
  · rcases hb with rfl | ⟨e, hb⟩
    · rw [pCmp_zr ha rfl]
      constructor
      · intro h; cases hh : a.neg <;> rw [hh] at h <;> simp at h
      · intro h; exact absurd (by rw [h]) ha.nil
    · rw [pCmp_ok ha hb]
      constructor
      · intro h
        have hn : a.neg = b.neg := by
          cases h1 : a.neg <;> cases h2 : b.neg <;> rw [h1, h2] at h <;> simp at h ⊢
        rw [if_pos hn] at h
        have hk : kcmp a b d e = 0 := by split at h <;> omega
        obtain ⟨h1, h2⟩ := kcmp_zero.1 hk
        have h3 := ha.dig; have h4 := hb.dig
        cases a; cases b; simp only at *; subst h1; subst h2; subst hn; rw [h3, h4]
      · rintro rfl
        have hde : d = e := ba_inj.1 (ha.dig.symm.trans hb.dig)
        rw [if_pos rfl, kcmp_zero.2 ⟨hde, rfl⟩]; simp
theorem kcmp_trans {a b c : JNum} {d e f : BL} (h : kcmp a b d e ≤ 0) (k : kcmp b c e f ≤ 0) : kcmp a c d f ≤ 0 := by
  unfold kcmp at *
  have hI : ∀ x y, cmpI x y = if x < y then -1 else if y < x then 1 else 0 := fun x y => rfl
  by_cases h1 : cmpI (d.length + a.exp) (e.length + b.exp) = 0
  · rw [if_pos h1] at h
    by_cases h2 : cmpI (e.length + b.exp) (f.length + c.exp) = 0
    · rw [if_pos h2] at k
      rw [cmpI_zero] at h1 h2
      rw [if_pos (by rw [cmpI_zero]; omega)]
      exact cmpL_trans d e f h k
    · rw [if_neg h2] at k
      rw [cmpI_zero] at h1
      rw [h1, if_neg h2]; exact k
  · rw [if_neg h1] at h
    rw [hI] at h
    have hlt : (d.length : Int) + a.exp < e.length + b.exp := by
      rcases Int.lt_trichotomy ((d.length : Int) + a.exp) (e.length + b.exp) with x | x | x
      · exact x
      · exact absurd ((cmpI_zero _ _).2 x) h1
      · rw [if_neg (by omega), if_pos x] at h; omega
    have hle : (e.length : Int) + b.exp ≤ f.length + c.exp := by
      by_cases h2 : cmpI (e.length + b.exp) (f.length + c.exp) = 0
      · rw [cmpI_zero] at h2; omega
      · rw [if_neg h2, hI] at k
        rcases Int.lt_trichotomy ((e.length : Int) + b.exp) (f.length + c.exp) with x | x | x
        · omega
        · omega
        · rw [if_neg (by omega), if_pos x] at k; omega
    rw [if_neg (by rw [cmpI_zero]; omega), hI, if_pos (by omega)]; omega
theorem pCmp_trans {a b c : JNum} (ha : JMay a) (hb : JMay b) (hc : JMay c) (h : pCmp a b ≤ 0) (k : pCmp b c ≤ 0) : pCmp a c ≤ 0 := by
  rcases ha with rfl | ⟨d, ha⟩
  · rcases hc with rfl | ⟨f, hc⟩
    · rw [pCmp_zz]; omega
    · rw [pCmp_zl rfl hc]
      cases hcn : c.neg
      · simp
      · exfalso
        rcases hb with rfl | ⟨e, hb⟩
        · rw [pCmp_zl rfl hc, hcn] at k; simp at k
        · rw [pCmp_zl rfl hb] at h
          rw [pCmp_ok hb hc, hcn] at k
          cases hbn : b.neg <;> rw [hbn] at h k <;> simp at h k
  · rcases hc with rfl | ⟨f, hc⟩
    · rw [pCmp_zr ha rfl]
      cases han : a.neg
      · exfalso
        rcases hb with rfl | ⟨e, hb⟩
        · rw [pCmp_zr ha rfl, han] at h; simp at h
        · rw [pCmp_zr hb rfl] at k
          rw [pCmp_ok ha hb, han] at h
          cases hbn : b.neg <;> rw [hbn] at h k <;> simp at h k
      · simp
    · rw [pCmp_ok ha hc]
      rcases hb with rfl | ⟨e, hb⟩
      · rw [pCmp_zr ha rfl] at h
        rw [pCmp_zl rfl hc] at k
        cases han : a.neg <;> cases hcn : c.neg <;> rw [han] at h <;> rw [hcn] at k <;> simp at h k ⊢
      · rw [pCmp_ok ha hb] at h
        rw [pCmp_ok hb hc] at k
        have hk1 := @kcmp_trans a b c d e f
        have hk2 := @kcmp_trans c b a f e d
        rw [kcmp_anti b c, kcmp_anti a b, kcmp_anti a c] at hk2
        cases han : a.neg <;> cases hbn : b.neg <;> cases hcn : c.neg <;> rw [han, hbn] at h <;> rw [hbn, hcn] at k <;> simp at h k ⊢
        · exact hk1 h k
        · have := hk2 (by omega) (by omega); omega
end Lg
namespace Lg
open Go
/-! ### Decimal digits -/
theorem valL_snoc (l : BL) (c : UInt8) (v : Int) : valL v (l ++ [c]) = 10 * valL v l + (c.toNat : Int) - 48 := by
  unfold valL; rw [List.foldl_append]; rfl
theorem dd_facts (u : Nat) : aD (Lib.decDigits u) ∧ valL 0 (Lib.decDigits u) = u ∧ Lib.decDigits u ≠ [] ∧ (0 < u → (Lib.decDigits u).head? ≠ some 48) := by
  induction u using Nat.strongRecOn with
  | ind u ih =>
    by_cases h : u < 10
    · rw [dd_small h]
      have e : (UInt8.ofNat (48 + u)).toNat = 48 + u := by rw [UInt8.toNat_ofNat']; omega
      refine ⟨fun b hb => ?_, ?_, by simp, ?_⟩
      · have : b = UInt8.ofNat (48 + u) := by simpa using hb
        subst this; rw [isD_iff, e]; omega
      · show 10 * (0 : Int) + ((UInt8.ofNat (48 + u)).toNat : Int) - 48 = u
        rw [e]; omega
      · intro hu hh
        have : UInt8.ofNat (48 + u) = 48 := by simpa using hh
        have := congrArg UInt8.toNat this
        rw [e] at this
        have e48 : (48 : UInt8).toNat = 48 := rfl
        omega
    · rw [dd_big h]
      obtain ⟨h1, h2, h3, h4⟩ := ih (u / 10) (by omega)
      have e : (UInt8.ofNat (48 + u % 10)).toNat = 48 + u % 10 := by rw [UInt8.toNat_ofNat']; omega
      refine ⟨fun b hb => ?_, ?_, by simp, ?_⟩
      · rcases List.mem_append.1 hb with hb | hb
        · exact h1 b hb
        · have : b = UInt8.ofNat (48 + u % 10) := by simpa using hb
          subst this; rw [isD_iff, e]; omega
      · rw [valL_snoc, h2, e]; omega
      · intro hu
        have hd0 : (Lib.decDigits (u / 10) ++ [UInt8.ofNat (48 + u % 10)]).head? = (Lib.decDigits (u / 10)).head? := by
          cases hq : Lib.decDigits (u / 10) with
          | nil => exact absurd hq h3
          | cons => rfl
        rw [hd0]
        exact h4 (by omega)
theorem dd_len10 (k : Nat) : ∀ (u : Nat), 1 ≤ k → u < 10 ^ k → (Lib.decDigits u).length ≤ k := by
  induction k with
  | zero => intro u h; omega
  | succ k ih =>
    intro u _ hu
    by_cases h : u < 10
    · rw [dd_small h]; simp
    · rw [dd_big h, List.length_append]
      have hk : 1 ≤ k := by
        rcases Nat.eq_zero_or_pos k with rfl | h0
        · simp at hu; omega
        · exact h0
      have := ih (u / 10) hk (by rw [Nat.pow_succ] at hu; omega)
      simp only [List.length_cons, List.length_nil]; omega
theorem tw_all {d : BL} (h : aD d) (r : BL) (hr : r.head?.all (fun b => !isD b) = true) : (d ++ r).takeWhile isD = d ∧ (d ++ r).dropWhile isD = r := by
  induction d with
  | nil =>
    cases r with
    | nil => exact ⟨rfl, rfl⟩
    | cons b q =>
      have hb : isD b = false := by simpa using hr
      simp [List.takeWhile_cons, List.dropWhile_cons, hb]
  | cons b d ih =>
    have hb : isD b = true := h b (List.mem_cons_self ..)
    obtain ⟨h1, h2⟩ := ih (fun c hc => h c (List.mem_cons_of_mem _ hc))
    simp only [List.cons_append, List.takeWhile_cons, List.dropWhile_cons, hb, if_true]
    exact ⟨by rw [h1], h2⟩
theorem hd_ne45 {d : BL} (h : aD d) (hne : d ≠ []) (r : BL) : strip 45 (d ++ r) = d ++ r ∧ strip 43 (d ++ r) = d ++ r ∧ hd45 (d ++ r) = false ∧ hdC 43 (d ++ r) = false := by
  cases d with
  | nil => exact absurd rfl hne
  | cons b q =>
    have hb := (aD_cons h).1
    have h45 : ¬ b = 45 := by rintro rfl; exact absurd hb.1 (by decide)
    refine ⟨strip_ne (by omega), strip_ne (by omega), by simp [hd45, h45], ?_⟩
    rw [List.cons_append, hdC_cons]
    exact decide_eq_false (by have : (43 : UInt8).toNat = 43 := rfl; omega)
theorem itoa_pos {n : Int} (h : 0 ≤ n) : Lib.itoa n = Lib.decDigits n.toNat := by unfold Lib.itoa; rw [if_neg (by omega)]
theorem itoa_neg' {n : Int} (h : n < 0) : Lib.itoa n = 45 :: Lib.decDigits (-n).toNat := by unfold Lib.itoa; rw [if_pos h]; congr 2; omega
theorem smallN_dd {u : Nat} (h : u < 100000) : smallN (Lib.decDigits u) = u := by
  obtain ⟨h1, h2, h3, h4⟩ := dd_facts u
  unfold smallN
  rw [if_pos, valL_zeros, h2]
  have := (List.dropWhile_sublist (l := Lib.decDigits u) (· == (48 : UInt8))).length_le
  have := dd_len10 5 u (by omega) (by simpa using h)
  omega
/-- An exponent's text. -/
theorem smallI_itoa {n : Int} (h : -1000 ≤ n ∧ n ≤ 1000) : smallI (Lib.itoa n) = n := by
  by_cases hn : n < 0
  · rw [itoa_neg' hn]
    unfold smallI
    rw [if_pos (by rfl), strip_eq (by rfl), smallN_dd (by omega)]; omega
  · rw [itoa_pos (by omega)]
    obtain ⟨h1, h2, h3, h4⟩ := dd_facts n.toNat
    have hh := hd_ne45 h1 h3 []
    rw [List.append_nil] at hh
    unfold smallI
    rw [hh.2.2.1, if_neg (by simp), hh.1, smallN_dd (by omega)]; omega
theorem pExp_itoa {n : Int} (h : -1000 ≤ n ∧ n ≤ 1000) : pExp (101 :: Lib.itoa n) = (Lib.itoa n, true) := by
  have hx : ∀ d : BL, aD d → d ≠ [] → strip 43 (Lib.itoa n) = Lib.itoa n → hdC 43 (Lib.itoa n) = false → strip 45 (Lib.itoa n) = d → pExp (101 :: Lib.itoa n) = (Lib.itoa n, true) := by
    intro d hd hne h43 hc h45
    have h1 : (pExp (101 :: Lib.itoa n)).1 = Lib.itoa n := h43
    have h2 : (pExp (101 :: Lib.itoa n)).2 = true := by
      rw [pExp2, h43, h45, hc]
      have := (tw_all hd [] rfl).1
      rw [List.append_nil] at this
      rw [this]
      simp [hne]
    rw [← h1, ← h2, h1, h2]
    exact Prod.ext h1 h2
  by_cases hn : n < 0
  · obtain ⟨h1, h2, h3, h4⟩ := dd_facts (-n).toNat
    refine hx (Lib.decDigits (-n).toNat) h1 h3 ?_ ?_ ?_ <;> rw [itoa_neg' hn] <;> rfl
  · obtain ⟨h1, h2, h3, h4⟩ := dd_facts n.toNat
    have hh := hd_ne45 h1 h3 []
    rw [List.append_nil, ← itoa_pos (by omega)] at hh
    exact hx _ (by rw [itoa_pos (by omega)]; exact h1) (by rw [itoa_pos (by omega)]; exact h3) hh.2.1 hh.2.2.2 hh.1
theorem cutL_id {d : BL} (h : d.head? ≠ some 48) : cutL d = d := by
  cases d with
  | nil => rfl
  | cons b q => rw [cutL_cons, if_neg (fun e => h (by rw [e]; rfl))]
theorem cutR_id {d : BL} (h : d.getLast? ≠ some 48) : cutR d = d := by
  unfold cutR
  have : d.reverse.head? ≠ some 48 := by rwa [List.head?_reverse]
  have h2 := cutL_id this
  unfold cutL at h2
  rw [h2, List.reverse_reverse]
/-- The parts of a number's canonical text. -/
theorem pParts_show {d r : BL} {x : BL} (hd : aD d) (hne : d ≠ []) (hh : 1 < d.length → d.head? ≠ some 48) (hr : r.head?.all (fun b => !isD b) = true) (hf : pFrac r = some ([], r)) (hx : pExp r = (x, true)) :
    pParts (d ++ r) = (d, [], x, true) := by
  obtain ⟨h1, h2⟩ := tw_all hd r hr
  have hl := List.length_pos_iff.2 hne
  rw [pParts_some (f := []) (r := r) ?_ (by rw [h2]; exact hf), h1, hx]
  rw [h1]
  rintro (h | ⟨h, hz⟩)
  · omega
  · refine hh h ?_
    cases d with
    | nil => exact absurd rfl hne
    | cons b q => simpa using hz
/-- A text of a sign, digits, and an exponent is read. -/
theorem pNum_text {d r x : BL} {ng : Bool} {n : Int} (hd : aD d) (hne : d ≠ []) (hh : d.head? ≠ some 48) (hl : d.getLast? ≠ some 48) (hlen : d.length ≤ 60) (hr : r.head?.all (fun b => !isD b) = true) (hf : pFrac r = some ([], r)) (hx : pExp r = (x, true)) (hs : smallI x = n) (hn : -1000 ≤ n ∧ n ≤ 1000) :
    pNum ((if ng = true then [45] else []) ++ (d ++ r)) = (⟨ng, ba d, n⟩, 0) := by
  have hst : strip 45 ((if ng = true then [45] else []) ++ (d ++ r)) = d ++ r := by
    cases ng
    · exact (hd_ne45 hd hne r).1
    · exact strip_eq rfl
  have h45 : hd45 ((if ng = true then [45] else []) ++ (d ++ r)) = ng := by
    cases ng
    · exact (hd_ne45 hd hne r).2.2.1
    · rfl
  have hp := pParts_show hd hne (fun _ => hh) hr hf hx
  have hA : pAll ((if ng = true then [45] else []) ++ (d ++ r)) = d := by
    unfold pAll; rw [hst, hp]; simp only [List.append_nil]; exact cutL_id hh
  have hX : pX ((if ng = true then [45] else []) ++ (d ++ r)) = n := by
    unfold pX; rw [hst, hp, hA, cutR_id hl]; simp only [List.length_nil]; rw [hs]; omega
  rw [pNum_some (by rw [hst, hp]) (by rw [hA]; exact hne) (by rw [hA, hX, cutR_id hl]; omega), hA, hX, h45, cutR_id hl]
theorem back {n : JNum} (h : JMay n) : ∃ l, jshow n = ba l ∧ pNum l = (n, 0) ∧ l.length ≤ 1000 := by
  rcases h with rfl | ⟨d, h⟩
  · refine ⟨[48], ?_, ?_, by simp⟩
    · unfold jshow; rw [if_pos rfl]; rfl
    · have hp : pParts (strip 45 [48]) = ([48], [], [48], true) := pParts_show (d := [48]) (r := []) (fun b hb => by simp at hb; subst hb; rfl) (by simp) (fun h => by simp at h) rfl rfl rfl
      exact pNum_zero (by rw [hp]) (by unfold pAll; rw [hp]; rfl)
  · have hsg : ∀ m : ByteArray, (if n.neg = true then (⟨#[45]⟩ : ByteArray) ++ n.digits else n.digits) = ba ((if n.neg = true then [45] else []) ++ d) := by
      intro m
      rw [h.dig]
      cases n.neg
      · rfl
      · exact ba_app [45] d
    have hlen := h.len; have hlo := h.lo; have hhi := h.hi
    have hsl : (if n.neg = true then [(45 : UInt8)] else []).length ≤ 1 := by split <;> simp
    unfold jshow
    rw [if_neg h.nil, hsg ⟨#[]⟩]
    by_cases he : n.exp = 0
    · rw [if_pos he]
      refine ⟨_, rfl, ?_, by rw [List.length_append]; omega⟩
      have := pNum_text (d := d) (r := []) (x := [48]) (ng := n.neg) (n := 0) h.ad h.ne h.hd h.lst h.len rfl rfl rfl rfl (by omega)
      rw [List.append_nil] at this
      rw [this, ← h.dig, ← he]
    · rw [if_neg he]
      refine ⟨(if n.neg = true then [45] else []) ++ (d ++ (101 :: Lib.itoa n.exp)), ?_, ?_, ?_⟩
      · rw [show (⟨#[101]⟩ : ByteArray) = ba [101] from rfl, ba_app]
        unfold itoaB
        rw [ba_app]; simp
      · rw [pNum_text (d := d) (r := 101 :: Lib.itoa n.exp) (x := Lib.itoa n.exp) (ng := n.neg) (n := n.exp) h.ad h.ne h.hd h.lst h.len rfl rfl (pExp_itoa ⟨hlo, hhi⟩) (smallI_itoa ⟨hlo, hhi⟩) ⟨hlo, hhi⟩, ← h.dig]
      · have := itoa_size (n := n.exp) (by omega) (by omega)
        unfold itoaB at this; rw [ba_size] at this
        simp only [List.length_append, List.length_cons]; omega
end Lg
namespace Lg
open Go
/-! ### A count as a number -/
theorem cutR_fill (l : BL) : l = cutR l ++ List.replicate (l.length - (cutR l).length) 48 := by
  have h := List.takeWhile_append_dropWhile (p := (· == (48 : UInt8))) (l := l.reverse)
  have h2 : l = cutR l ++ (l.reverse.takeWhile (· == 48)).reverse := by
    unfold cutR
    rw [← List.reverse_append, h, List.reverse_reverse]
  have h3 : (l.reverse.takeWhile (· == 48)).reverse = List.replicate (l.length - (cutR l).length) 48 := by
    rw [List.eq_replicate_iff]
    constructor
    · have := congrArg List.length h2
      rw [List.length_append] at this; omega
    · intro b hb
      have := List.all_eq_true.1 (List.all_takeWhile (p := (· == (48 : UInt8))) (l := l.reverse)) b (List.mem_reverse.1 hb)
      simpa using this
  rw [h3] at h2
  exact h2
theorem cmpL_val : ∀ (x y : BL) (v : Nat), aD x → aD y → x.length = y.length → 0 ≤ cmpL x y → valL v y ≤ valL v x
  | [], [], v, _, _, _, _ => Int.le_refl _
  | [], _ :: _, _, _, _, h, _ => by simp at h
  | _ :: _, [], _, _, _, h, _ => by simp at h
  | a :: x, b :: y, v, hx, hy, hl, hc => by
    obtain ⟨ha, hx⟩ := aD_cons hx
    obtain ⟨hb, hy⟩ := aD_cons hy
    have hl' : x.length = y.length := by simpa using hl
    have ea : valL v (a :: x) = valL ((v * 10 + (a.toNat - 48) : Nat) : Int) x := by
      show valL (10 * (v : Int) + (a.toNat : Int) - 48) x = _
      congr 1; omega
    have eb : valL v (b :: y) = valL ((v * 10 + (b.toNat - 48) : Nat) : Int) y := by
      show valL (10 * (v : Int) + (b.toNat : Int) - 48) y = _
      congr 1; omega
    rw [ea, eb]
    simp only [cmpL] at hc
    by_cases h1 : a.toNat < b.toNat
    · rw [if_pos h1] at hc; omega
    · by_cases h2 : b.toNat < a.toNat
      · obtain ⟨_, _, h3⟩ := valL_nat y (v * 10 + (b.toNat - 48)) hy
        have h4 := valL_ge x ((v * 10 + (a.toNat - 48) : Nat) : Int) hx (by omega)
        rw [hl'] at h4
        have h5 : (((v * 10 + (b.toNat - 48) : Nat) : Int) + 1) * 10 ^ y.length ≤ ((v * 10 + (a.toNat - 48) : Nat) : Int) * 10 ^ y.length :=
          Int.mul_le_mul_of_nonneg_right (by omega) (Int.pow_nonneg (by omega))
        omega
      · rw [if_neg h1, if_neg h2] at hc
        have : a.toNat = b.toNat := by omega
        rw [this]
        exact cmpL_val x y _ hx hy hl' hc
theorem val_head {l : BL} (hd : aD l) (hne : l ≠ []) (hh : l.head? ≠ some 48) : (10 : Int) ^ (l.length - 1) ≤ valL 0 l := by
  cases l with
  | nil => exact absurd rfl hne
  | cons b q =>
    obtain ⟨hb, hq⟩ := aD_cons hd
    have hb48 : b.toNat ≠ 48 := fun e => hh (by rw [show b = 48 from UInt8.toNat_inj.1 e]; rfl)
    have e : valL 0 (b :: q) = valL ((b.toNat : Int) - 48) q := by
      show valL (10 * (0 : Int) + (b.toNat : Int) - 48) q = _
      congr 1; omega
    rw [e]
    have h1 := valL_ge q ((b.toNat : Int) - 48) hq (by omega)
    have h2 : (1 : Int) * 10 ^ q.length ≤ ((b.toNat : Int) - 48) * 10 ^ q.length := Int.mul_le_mul_of_nonneg_right (by omega) (Int.pow_nonneg (by omega))
    rw [Int.one_mul] at h2
    simp only [List.length_cons, Nat.add_sub_cancel]
    omega
theorem of_zero : pNum (Lib.itoa 0) = ({}, 0) := by
  have h0 : Lib.itoa 0 = [48] := by rw [itoa_pos (by omega)]; exact dd_small (by decide)
  have hp : pParts (strip 45 [48]) = ([48], [], [48], true) := pParts_show (d := [48]) (r := []) (fun b hb => by simp at hb; subst hb; rfl) (by simp) (fun h => by simp at h) rfl rfl rfl
  rw [h0]
  exact pNum_zero (by rw [hp]) (by unfold pAll; rw [hp]; rfl)
theorem of_pos {u : Nat} (h0 : 0 < u) (h1 : u < 10 ^ 11) : pNum (Lib.itoa u) = (⟨false, ba (cutR (Lib.decDigits u)), ((Lib.decDigits u).length : Int) - (cutR (Lib.decDigits u)).length⟩, 0) ∧
    JOk ⟨false, ba (cutR (Lib.decDigits u)), ((Lib.decDigits u).length : Int) - (cutR (Lib.decDigits u)).length⟩ (cutR (Lib.decDigits u)) := by
  obtain ⟨hd, hv, hne, hh⟩ := dd_facts u
  have hh := hh h0
  have hlen := dd_len10 11 u (by omega) h1
  have hi : Lib.itoa (u : Int) = Lib.decDigits u := itoa_pos (by omega)
  rw [hi]
  have hst := hd_ne45 hd hne []
  rw [List.append_nil] at hst
  have hp := pParts_show hd hne (fun _ => hh) (r := []) rfl rfl (x := [48]) rfl
  rw [List.append_nil] at hp
  have hA : pAll (Lib.decDigits u) = Lib.decDigits u := by
    unfold pAll; rw [hst.1, hp]; simp only [List.append_nil]; exact cutL_id hh
  have hcl := cutR_len (Lib.decDigits u)
  have hX : pX (Lib.decDigits u) = ((Lib.decDigits u).length : Int) - (cutR (Lib.decDigits u)).length := by
    unfold pX; rw [hst.1, hp, hA]; simp only [List.length_nil]
    rw [show smallI [48] = 0 from rfl]; omega
  have hc : cutR (Lib.decDigits u) ≠ [] := fun e => hne ((cutR_nil (fun b hb => fun e => hh (by rw [← e]; exact hb))).1 e)
  refine ⟨?_, rfl, hc, aD_cutR hd, ?_, ?_, by omega, by show -1000 ≤ ((Lib.decDigits u).length : Int) - (cutR (Lib.decDigits u)).length; omega, by show ((Lib.decDigits u).length : Int) - (cutR (Lib.decDigits u)).length ≤ 1000; omega⟩
  · rw [pNum_some (by rw [hst.1, hp]) (by rw [hA]; exact hne) (by rw [hA, hX]; omega), hA, hX, hst.2.2.1]
  · rw [cutR_head hc]; exact hh
  · rw [List.getLast?_eq_some_getLast hc]; exact fun e => cutR_last hc (Option.some.inj e)
theorem of_whole {k : Int} (h0 : 0 ≤ k) (h1 : k ≤ 1000000001) : 0 ≤ (pNum (Lib.itoa k)).1.exp := by
  by_cases hk : k = 0
  · subst hk; rw [of_zero]; exact Int.le_refl _
  · have e : k = ((k.toNat : Nat) : Int) := by omega
    rw [e, (of_pos (u := k.toNat) (by omega) (by omega)).1]
    have := cutR_len (Lib.decDigits k.toNat)
    show 0 ≤ ((Lib.decDigits k.toNat).length : Int) - (cutR (Lib.decDigits k.toNat)).length
    omega
theorem of_next {k : Int} (h0 : 0 ≤ k) (h1 : k ≤ 1000000000) : pCmp (pNum (Lib.itoa k)).1 (pNum (Lib.itoa (k + 1))).1 = -1 := by
  obtain ⟨u, rfl⟩ : ∃ u : Nat, k = u := ⟨k.toNat, by omega⟩
  have e1 : ((u : Int) + 1) = ((u + 1 : Nat) : Int) := by omega
  rw [e1]
  obtain ⟨f1, g1⟩ := of_pos (u := u + 1) (by omega) (by omega)
  by_cases hu : u = 0
  · subst hu
    rw [f1, show ((0 : Nat) : Int) = 0 from rfl, of_zero, pCmp_zl rfl g1]; rfl
  · obtain ⟨f2, g2⟩ := of_pos (u := u) (by omega) (by omega)
    rw [f1, f2, pCmp_ok g2 g1, if_pos rfl, if_neg (by simp)]
    obtain ⟨d1, v1, n1, z1⟩ := dd_facts (u + 1)
    obtain ⟨d2, v2, n2, z2⟩ := dd_facts u
    have z1 := z1 (by omega)
    have z2 := z2 (by omega)
    have c1 := cutR_len (Lib.decDigits (u + 1)); have c2 := cutR_len (Lib.decDigits u)
    unfold kcmp
    have s2 : ((cutR (Lib.decDigits u)).length : Int) + (((Lib.decDigits u).length : Int) - (cutR (Lib.decDigits u)).length) = (Lib.decDigits u).length := by omega
    have s1 : ((cutR (Lib.decDigits (u + 1))).length : Int) + (((Lib.decDigits (u + 1)).length : Int) - (cutR (Lib.decDigits (u + 1))).length) = (Lib.decDigits (u + 1)).length := by omega
    simp only [s1, s2]
    rcases Nat.lt_trichotomy (Lib.decDigits u).length (Lib.decDigits (u + 1)).length with h | h | h
    · rw [if_neg (by rw [cmpI_zero]; omega)]; unfold cmpI; rw [if_pos (by omega)]
    · rw [if_pos (by rw [cmpI_zero]; omega)]
      have hp := pad2 (i := (Lib.decDigits u).length - (cutR (Lib.decDigits u)).length) (j := (Lib.decDigits (u + 1)).length - (cutR (Lib.decDigits (u + 1))).length) g2.ad g1.ad g2.lst g1.lst (by omega)
      rw [← cutR_fill, ← cutR_fill] at hp
      rw [← hp]
      rcases cmpL_cases (Lib.decDigits u) (Lib.decDigits (u + 1)) with h2 | h2 | h2
      · have := cmpL_val _ _ 0 d2 d1 h (by omega)
        rw [show ((0 : Nat) : Int) = 0 from rfl, v1, v2] at this; omega
      · exact h2
      · have := cmpL_val _ _ 0 d2 d1 h (by omega)
        rw [show ((0 : Nat) : Int) = 0 from rfl, v1, v2] at this; omega
    · exfalso
      have k1 := val_head d2 n2 z2
      obtain ⟨_, _, k2⟩ := valL_nat (Lib.decDigits (u + 1)) 0 d1
      rw [show ((0 : Nat) : Int) = 0 from rfl, v1] at k2
      rw [v2] at k1
      have k3 : (10 : Int) ^ (Lib.decDigits (u + 1)).length ≤ 10 ^ ((Lib.decDigits u).length - 1) := by
        have := Nat.pow_le_pow_right (n := 10) (by omega) (show (Lib.decDigits (u + 1)).length ≤ (Lib.decDigits u).length - 1 by omega)
        exact_mod_cast this
      have k4 : ((0 : Int) + 1) * 10 ^ (Lib.decDigits (u + 1)).length = 10 ^ (Lib.decDigits (u + 1)).length := by rw [show ((0 : Int) + 1) = 1 from rfl, Int.one_mul]
      rw [k4] at k2
      omega
end Lg
set_option maxRecDepth 20000
set_option maxHeartbeats 4000000
namespace Lg
open Go Go.Proofs Go.RowKit
variable [GLay] 


def ex1n : JNum := ⟨true, ⟨#[49, 53]⟩, -2⟩
theorem ex1_p : pNum [45, 48, 46, 49, 53, 48] = (ex1n, 0) := by kernel_rfl
theorem ex2_p : pNum [48, 49] = ({}, 1) := by kernel_rfl
theorem ex1_c (σ : List AO) : ACalls Tryd.prog 6 [.str ⟨#[45, 48, 46, 49, 53, 48]⟩] σ (Ret (.tup [.agg [.bool true, .str ⟨#[49, 53]⟩, .int .i64 (-2)], .nili]) σ) := by
  have h := pparse_c [45, 48, 46, 49, 53, 48] σ (by decide)
  rw [ex1_p] at h; exact h
theorem ex2_c (σ : List AO) : ACalls Tryd.prog 6 [.str ⟨#[48, 49]⟩] σ (Ret (.tup [.agg [.bool false, .str ⟨#[]⟩, .int .i64 0], .iface 41 (.int .i64 1)]) σ) := by
  have h := pparse_c [48, 49] σ (by decide)
  rw [ex2_p] at h; exact h
theorem ex1_s : jshow ex1n = ⟨#[45, 49, 53, 101, 45, 50]⟩ := by
  unfold jshow
  rw [if_neg (by intro h; have := congrArg ByteArray.size h; exact absurd this (by decide)), if_neg (by decide)]
  rw [show ex1n.exp = -2 from rfl, itoa_neg (by decide), show (-(-2 : Int)) = 2 from rfl, itoa_small (by decide) (by decide)]
  rfl
variable [S10]
theorem ex1s_c (σ : List AO) : ACalls Tryd.prog 11 [.agg [.bool true, .str ⟨#[49, 53]⟩, .int .i64 (-2)]] σ (Ret (.str ⟨#[45, 49, 53, 101, 45, 50]⟩) σ) := by
  have h := pshow_c ex1n σ (by decide)
  rw [ex1_s] at h; exact h
theorem up1_c (σ : List AO) : ACalls Tryd.prog 5 [] σ (Ret (.bool true) σ) := by
  refine ACalls_body Tryd.func5 rfl Tryd.ntmps5 (res1 Tryd.results5) (Nat.le_of_ble_eq_true rfl) (fun hcl hal => ?_)
  refine AWp_seq ?_
  -- region 0 law.go:12
  refine AWp_regL ?_
  refine st rfl rfl rfl (op_assignO rfl rfl) ?_
  refine AOps_nil ?_
  refine AWp_seq ?_
  -- region 1 law.go:13
  refine AWp_regL ?_
  refine st rfl rfl rfl (op_callF rfl rfl rfl Tryd.func6 rfl rfl (ex1_c _)) ?_
  refine st rfl rfl rfl (op_moveO rfl rfl) ?_
  refine st rfl rfl rfl (op_extract rfl rfl rfl) ?_
  refine st rfl rfl rfl (op_extract rfl rfl rfl) ?_
  refine st rfl rfl rfl (op_alloc0 (cs := [_, _, _]) rfl Tryd.zeroValue24 rfl) ?_
  refine stN rfl rfl ((by first | exact op_storeO (r := [_, _, _]) rfl Tryd.sizeOf24 rfl rfl rfl rfl rfl (by decide) | exact op_storeP (r := [_, _, _]) rfl Tryd.sizeOf24 rfl rfl rfl (by assumption) rfl (by decide))) ?_
  refine st rfl rfl rfl (op_assignO rfl rfl) ?_
  refine AOps_nil ?_
  refine AWp_seq ?_
  -- region 2 law.go:14
  refine AWp_regL ?_
  refine st rfl rfl rfl (op_callF rfl rfl rfl Tryd.func6 rfl rfl (ex2_c _)) ?_
  refine st rfl rfl rfl (op_moveO rfl rfl) ?_
  refine st rfl rfl rfl (op_extract rfl rfl rfl) ?_
  refine st rfl rfl rfl (op_extract rfl rfl rfl) ?_
  refine st rfl rfl rfl (op_allocO (cs := [_, _, _]) 1 rfl rfl Tryd.zeroValue24 rfl) ?_
  refine stN rfl rfl ((by first | exact op_storeO (r := [_, _, _]) rfl Tryd.sizeOf24 rfl rfl rfl rfl rfl (by decide) | exact op_storeP (r := [_, _, _]) rfl Tryd.sizeOf24 rfl rfl rfl (by assumption) rfl (by decide))) ?_
  refine st rfl rfl rfl (op_assignO rfl rfl) ?_
  refine AOps_nil ?_
  refine AWp_seq ?_
  -- region 3 law.go:15
  refine AWp_regL ?_
  refine st rfl rfl rfl (op_moveO rfl rfl) ?_
  refine st rfl rfl rfl ((by first | exact op_eqIN rfl Tryd.underlying26 rfl | exact op_eqINil rfl Tryd.underlying26 rfl)) ?_
  refine st rfl rfl rfl (op_moveO rfl rfl) ?_
  refine stG rfl rfl rfl rfl rfl rfl (op_loadK (cs := [_, _, _]) rfl Tryd.isAgg24 Tryd.sizeOf24 (by first | exact ldv_own rfl rfl | exact ldv_pp rfl | exact ldv_old (by assumption) rfl | exact ldv_ptr (by assumption) rfl)) ?_
  refine stG rfl rfl rfl rfl rfl rfl (op_buildP (cs := [_, _, _]) [(0, 1), (1, 1), (2, 1)] rfl Tryd.underlying24 Tryd.zeroValue24 ⟨rfl, Tryd.sizeOf4, ⟨rfl, Tryd.sizeOf9, ⟨rfl, Tryd.sizeOf3, trivial⟩⟩⟩ rfl rfl) ?_
  refine stG rfl rfl rfl rfl rfl rfl (op_eqSR (r' := true) rfl Tryd.underlying24 (by kernel_rfl) (by kernel_rfl) (.bool _ _ _ _ _ _ _ _ (by decide) rfl Tryd.underlying4 (.str _ _ _ _ _ _ _ _ (by decide) rfl Tryd.underlying9 (.int _ _ _ _ _ _ _ _ _ _ (by decide) rfl Tryd.underlying3 (.nil _)))) rfl rfl (by simp)) ?_
  refine st rfl rfl rfl (op_pickTO rfl rfl rfl) ?_
  refine st rfl rfl rfl (op_moveO rfl rfl) ?_
  refine stG rfl rfl rfl rfl rfl rfl (op_loadK (cs := [_, _, _]) rfl Tryd.isAgg24 Tryd.sizeOf24 (by first | exact ldv_own rfl rfl | exact ldv_pp rfl | exact ldv_old (by assumption) rfl | exact ldv_ptr (by assumption) rfl)) ?_
  refine stG rfl rfl rfl rfl rfl rfl (op_callF rfl rfl rfl Tryd.func11 rfl rfl (ex1s_c _)) ?_
  refine stG rfl rfl rfl rfl rfl rfl (op_seqT rfl rfl rfl rfl) ?_
  refine st rfl rfl rfl (op_pickTO rfl rfl rfl) ?_
  refine st rfl rfl rfl (op_moveO rfl rfl) ?_
  refine stG rfl rfl rfl rfl rfl rfl (op_moveO rfl rfl) ?_
  refine stG rfl rfl rfl rfl rfl rfl (op_callF rfl rfl rfl Tryd.func8 rfl rfl (code_k 1 _ (by decide) (by decide))) ?_
  refine stG rfl rfl rfl rfl rfl rfl (op_eqlT rfl rfl rfl rfl) ?_
  refine st rfl rfl rfl (op_pickTO rfl rfl rfl) ?_
  refine st rfl rfl rfl (op_assignO rfl rfl) ?_
  refine AOps_nil ?_
  refine AWp_ret ?_
  (try simp only [blockQ, thenQ])
  exact ResQ_1 rfl hcl trivial ⟨rfl, rfl⟩

theorem jnum_dec (a b : JNum) : (decide (a.neg = b.neg) && (decide (a.digits = b.digits) && (decide (a.exp = b.exp) && true))) = pb (a = b) := by
  by_cases h : a = b
  · rw [pb_t h]; subst h; simp
  · rw [pb_f h]
    cases hx : (decide (a.neg = b.neg) && (decide (a.digits = b.digits) && (decide (a.exp = b.exp) && true))) with
    | false => rfl
    | true =>
      simp only [Bool.and_true, Bool.and_eq_true, decide_eq_true_eq] at hx
      obtain ⟨h1, h2, h3⟩ := hx
      cases a; cases b; simp only at h1 h2 h3; subst h1; subst h2; subst h3; exact absurd rfl h
theorem pCmp_b {a b : JNum} (ha : JMay a) (hb : JMay b) : -1 ≤ pCmp a b ∧ pCmp a b ≤ 1 := by
  rw [cmp_same ha hb]; unfold rCmp; split
  · omega
  · split <;> omega
theorem pparseS_c (s : ByteArray) (σ : List AO) (hs : s.size ≤ 1000) : ACalls Tryd.prog 6 [.str s] σ (Ret (.tup [.agg (ncells (rNum s).1), cerr (rNum s).2]) σ) := by
  have hl : s.data.toList.length = s.size := Array.length_toList
  have h := pparse_c s.data.toList σ (by omega)
  rw [← ba_eta, ← rNum_pNum s hs] at h; exact h
theorem code_c (k : Int) (σ : List AO) (h : k = 0 ∨ k = 1 ∨ k = 5) : ACalls Tryd.prog 8 [cerr k] σ (Ret (.int .i64 k) σ) := by
  rcases h with rfl | rfl | rfl
  · exact code_0 σ
  · exact code_k 1 σ (by decide) (by decide)
  · exact code_k 5 σ (by decide) (by decide)
theorem rof2_c (k : Int) (σ : List AO) (h0 : 0 ≤ k) (h1 : k ≤ 1000000000000) : ACalls Tryd.prog 10 [.int .i64 k] σ (Ret (.agg (ncells (pNum (Lib.itoa k)).1)) σ) := by
  have h := rof_c k σ h0 h1
  have hsz := itoa_size (n := k) (by omega) (by omega)
  rw [rNum_pNum _ (by omega)] at h
  have e : (itoaB k).data.toList = Lib.itoa k := ba_toList _
  rw [e] at h; exact h
theorem pwholeR_c (n : JNum) (σ : List AO) (h : JMay n) : ACalls Tryd.prog 13 [.agg (ncells n)] σ (Ret (.bool (rWhole n)) σ) := by
  have := pwhole_c n σ; rwa [whole_ok h] at this
theorem pwholeT_c (n : JNum) (σ : List AO) (h : 0 ≤ n.exp) : ACalls Tryd.prog 13 [.agg (ncells n)] σ (Ret (.bool true) σ) := by
  have := pwhole_c n σ; rwa [decide_eq_true h] at this
theorem pcmpR_c (a b : JNum) (σ : List AO) (ha : JMay a) (hb : JMay b) : ACalls Tryd.prog 15 [.agg (ncells a), .agg (ncells b)] σ (Ret (.int .i64 (pCmp a b)) σ) := pcmp_c a b σ ha.bnd hb.bnd
theorem rcmpP_c (a b : JNum) (σ : List AO) (ha : JMay a) (hb : JMay b) : ACalls Tryd.prog 16 [.agg (ncells a), .agg (ncells b)] σ (Ret (.int .i64 (pCmp a b)) σ) := by
  have := rcmp_c a b σ ha.bnd hb.bnd; rwa [← cmp_same ha hb] at this
theorem rNum_mayJ (s : ByteArray) (hs : s.size ≤ 1000) : JMay (rNum s).1 ∧ ((rNum s).2 = 0 ∨ (rNum s).2 = 1 ∨ (rNum s).2 = 5) := by
  rw [rNum_pNum s hs]; exact ⟨(pNum_may _).1, (pNum_may _).2.1⟩
variable [S10]
theorem back_c (n : JNum) (σ : List AO) (h : JMay n) : ACalls Tryd.prog 6 [.str (jshow n)] σ (Ret (.tup [.agg (ncells n), .nili]) σ) := by
  obtain ⟨l, h1, h2, h3⟩ := back h
  have := pparse_c l σ h3
  rw [h2, ← h1] at this; exact this
theorem op_neCerr {P : Program} {σ : List AO} {e : Env} {o : Oper} {T T' : TypeId} {x : Operand} {ms : Array (String × TypeId)} {k : Int} (ho : o.op = .binOp .neq T x (.const .nilIface) T') (hu : P.underlying T = some (.interface ms)) (hx : opO e x = some (cerr k)) : AOp P σ e o (.bool (!decide (k = 0))) σ := by
  by_cases h : k = 0
  · subst h; exact op_neINil ho hu hx
  · have hc : cerr k = .iface 41 (.int .i64 k) := if_neg h
    rw [hc] at hx
    have := op_neIN (σ := σ) ho hu hx
    rwa [decide_eq_false h]
theorem numTells_c (s t : ByteArray) (k : Int) (σ : List AO) : ACalls Tryd.prog 3 [.str s, .str t, .int .i64 k] σ (Ret (.bool true) σ) := by
  refine ACalls_body Tryd.func3 rfl Tryd.ntmps3 (res1 Tryd.results3) (Nat.le_of_ble_eq_true rfl) (fun hcl hal => ?_)
  refine AWp_seq ?_
  -- region 0 law.go:19
  refine AWp_regL ?_
  refine st rfl rfl rfl (op_assignO rfl rfl) ?_
  refine AOps_nil ?_
  refine AWp_seq ?_
  -- region 1 law.go:20
  refine AWp_regL ?_
  refine st rfl rfl rfl (op_callF rfl rfl rfl Tryd.func5 rfl rfl (up1_c _)) ?_
  refine st rfl rfl rfl (op_assignO rfl rfl) ?_
  refine AOps_nil ?_
  refine AWp_seq ?_
  refine AWp_seq ?_
  -- region 2 law.go:21
  refine AWp_regL ?_
  refine st rfl rfl rfl (op_moveO rfl rfl) ?_
  refine st rfl rfl rfl (op_lenStr rfl rfl Tryd.underlying9 rfl) ?_
  refine st rfl rfl rfl (op_gtr rfl rfl rfl) ?_
  refine st rfl rfl rfl (op_moveO rfl rfl) ?_
  refine AOps_split 18 rfl (fun h1 => ?_) (fun h1 => ?_)
  · rw [h1]; (try simp only [decide_eq_true_eq, decide_eq_false_iff_not, Bool.not_eq_true', Bool.not_eq_false', Int.not_lt, Int.not_le, Bool.not_true, Bool.not_false, Int.toNat_natCast, bne_iff_ne, beq_iff_eq, beq_eq_false_iff_ne, ne_eq, Decidable.not_not] at h1)
    refine stS rfl rfl rfl (.inl rfl) rfl rfl ?_
    refine stS rfl rfl rfl (.inl rfl) rfl rfl ?_
    refine stS rfl rfl rfl (.inl rfl) rfl rfl ?_
    refine st rfl rfl rfl (op_pickTO rfl rfl rfl) ?_
    refine AOps_nil ?_
    refine AWp_condT rfl ?_
    refine AWp_seq ?_
    -- region 3 law.go:22
    refine AWp_regL ?_
    refine st rfl rfl rfl (op_moveO rfl rfl) ?_
    refine st rfl rfl rfl (op_assignO rfl rfl) ?_
    refine AOps_nil ?_
    refine AWp_ret ?_
    (try simp only [blockQ, thenQ])
    exact ResQ_10 rfl hcl trivial ⟨rfl, rfl⟩
  · rw [h1]; (try simp only [decide_eq_true_eq, decide_eq_false_iff_not, Bool.not_eq_true', Bool.not_eq_false', Int.not_lt, Int.not_le, Bool.not_true, Bool.not_false, Int.toNat_natCast, bne_iff_ne, beq_iff_eq, beq_eq_false_iff_ne, ne_eq, Decidable.not_not] at h1)
    refine stG rfl rfl rfl rfl rfl rfl (op_moveO rfl rfl) ?_
    refine stG rfl rfl rfl rfl rfl rfl (op_lenStr rfl rfl Tryd.underlying9 rfl) ?_
    refine stG rfl rfl rfl rfl rfl rfl (op_gtr rfl rfl rfl) ?_
    refine st rfl rfl rfl (op_pickFO rfl rfl rfl) ?_
    refine AOps_nil ?_
    refine AWp_cond rfl (fun h2 => ?_) (fun h2 => ?_)
    · (try rw [h2]); (try simp only [decide_eq_true_eq, decide_eq_false_iff_not, Bool.not_eq_true', Bool.not_eq_false', Int.not_lt, Int.not_le, Bool.not_true, Bool.not_false, Int.toNat_natCast, bne_iff_ne, beq_iff_eq, beq_eq_false_iff_ne, ne_eq, Decidable.not_not] at h2)
      refine AWp_seq ?_
      -- region 3 law.go:22
      refine AWp_regL ?_
      refine st rfl rfl rfl (op_moveO rfl rfl) ?_
      refine st rfl rfl rfl (op_assignO rfl rfl) ?_
      refine AOps_nil ?_
      refine AWp_ret ?_
      (try simp only [blockQ, thenQ])
      exact ResQ_10 rfl hcl trivial ⟨rfl, rfl⟩
    · (try rw [h2]); (try simp only [decide_eq_true_eq, decide_eq_false_iff_not, Bool.not_eq_true', Bool.not_eq_false', Int.not_lt, Int.not_le, Bool.not_true, Bool.not_false, Int.toNat_natCast, bne_iff_ne, beq_iff_eq, beq_eq_false_iff_ne, ne_eq, Decidable.not_not] at h2)
      refine AWp_skip ?_
      refine AWp_seq ?_
      -- region 4 law.go:24
      obtain ⟨hmx, hme⟩ := rNum_mayJ s (by omega)
      obtain ⟨hmy, _⟩ := rNum_mayJ t (by omega)
      refine AWp_regL ?_
      refine st rfl rfl rfl (op_moveO rfl rfl) ?_
      refine st rfl rfl rfl (op_callF rfl rfl rfl Tryd.func6 rfl rfl (pparseS_c s _ (by omega))) ?_
      refine st rfl rfl rfl (op_moveO rfl rfl) ?_
      refine st rfl rfl rfl (op_extract rfl rfl rfl) ?_
      refine st rfl rfl rfl (op_extract rfl rfl rfl) ?_
      refine st rfl rfl rfl (op_alloc0 (cs := [_, _, _]) rfl Tryd.zeroValue24 rfl) ?_
      refine stN rfl rfl ((by first | exact op_storeO (r := [_, _, _]) rfl Tryd.sizeOf24 rfl rfl rfl rfl rfl (by decide) | exact op_storeP (r := [_, _, _]) rfl Tryd.sizeOf24 rfl rfl rfl (by assumption) rfl (by decide))) ?_
      refine st rfl rfl rfl (op_assignO rfl rfl) ?_
      refine AOps_nil ?_
      refine AWp_seq ?_
      -- region 5 law.go:25
      refine AWp_regL ?_
      refine st rfl rfl rfl (op_moveO rfl rfl) ?_
      refine st rfl rfl rfl (op_callF rfl rfl rfl Tryd.func7 rfl rfl (rnum_c s _ (by omega))) ?_
      generalize (rNum s).1 = x at hmx ⊢
      generalize (rNum s).2 = xb at hme ⊢
      refine st rfl rfl rfl (op_moveO rfl rfl) ?_
      refine st rfl rfl rfl (op_extract rfl rfl rfl) ?_
      refine st rfl rfl rfl (op_extract rfl rfl rfl) ?_
      refine st rfl rfl rfl (op_allocO (cs := [_, _, _]) 1 rfl rfl Tryd.zeroValue24 rfl) ?_
      refine stN rfl rfl ((by first | exact op_storeO (r := [_, _, _]) rfl Tryd.sizeOf24 rfl rfl rfl rfl rfl (by decide) | exact op_storeP (r := [_, _, _]) rfl Tryd.sizeOf24 rfl rfl rfl (by assumption) rfl (by decide))) ?_
      refine st rfl rfl rfl (op_assignO rfl rfl) ?_
      refine AOps_nil ?_
      refine AWp_seq ?_
      refine AWp_seq ?_
      -- region 6 law.go:26
      refine AWp_regL ?_
      refine st rfl rfl rfl (op_loadK (cs := [_, _, _]) rfl Tryd.isAgg24 Tryd.sizeOf24 (by first | exact ldv_own rfl rfl | exact ldv_pp rfl | exact ldv_old (by assumption) rfl | exact ldv_ptr (by assumption) rfl)) ?_
      refine st rfl rfl rfl (op_loadK (cs := [_, _, _]) rfl Tryd.isAgg24 Tryd.sizeOf24 (by first | exact ldv_own rfl rfl | exact ldv_pp rfl | exact ldv_old (by assumption) rfl | exact ldv_ptr (by assumption) rfl)) ?_
      refine st rfl rfl rfl (op_neSR rfl Tryd.underlying24 (by kernel_rfl) (by kernel_rfl) (.bool _ _ _ _ _ _ _ _ (by decide) rfl Tryd.underlying4 (.str _ _ _ _ _ _ _ _ (by decide) rfl Tryd.underlying9 (.int _ _ _ _ _ _ _ _ _ _ (by decide) rfl Tryd.underlying3 (.nil _)))) rfl rfl (by simp)) ?_
      refine st rfl rfl rfl (op_moveO rfl rfl) ?_
      refine stG rfl rfl rfl rfl rfl rfl (op_moveO rfl rfl) ?_
      refine stG rfl rfl rfl rfl rfl rfl (op_callF rfl rfl rfl Tryd.func8 rfl rfl (code_c xb _ hme)) ?_
      refine stG rfl rfl rfl rfl rfl rfl (op_moveO rfl rfl) ?_
      refine stG rfl rfl rfl rfl rfl rfl (op_neqF rfl rfl rfl rfl) ?_
      refine st rfl rfl rfl (op_pickFO rfl rfl rfl) ?_
      refine AOps_nil ?_
      refine AWp_condF rfl ?_
      refine AWp_skip ?_
      refine AWp_seq ?_
      -- region 8 law.go:29
      refine AWp_regL ?_
      refine st rfl rfl rfl (op_moveO rfl rfl) ?_
      refine st rfl rfl rfl (op_callF rfl rfl rfl Tryd.func7 rfl rfl (rnum_c t _ (by omega))) ?_
      generalize (rNum t).1 = y at hmy ⊢
      generalize (rNum t).2 = yb
      refine st rfl rfl rfl (op_moveO rfl rfl) ?_
      refine st rfl rfl rfl (op_extract rfl rfl rfl) ?_
      refine st rfl rfl rfl (op_extract rfl rfl rfl) ?_
      refine st rfl rfl rfl (op_allocO (cs := [_, _, _]) 2 rfl rfl Tryd.zeroValue24 rfl) ?_
      refine stN rfl rfl ((by first | exact op_storeO (r := [_, _, _]) rfl Tryd.sizeOf24 rfl rfl rfl rfl rfl (by decide) | exact op_storeP (r := [_, _, _]) rfl Tryd.sizeOf24 rfl rfl rfl (by assumption) rfl (by decide))) ?_
      refine st rfl rfl rfl (op_assignO rfl rfl) ?_
      refine AOps_nil ?_
      refine AWp_seq ?_
      refine AWp_seq ?_
      -- region 9 law.go:30
      refine AWp_regL ?_
      refine st rfl rfl rfl (op_moveO rfl rfl) ?_
      refine st rfl rfl rfl (op_geq rfl rfl rfl) ?_
      refine st rfl rfl rfl (op_moveO rfl rfl) ?_
      refine AOps_split 50 rfl (fun h3 => ?_) (fun h3 => ?_)
      · rw [h3]; (try simp only [decide_eq_true_eq, decide_eq_false_iff_not, Bool.not_eq_true', Bool.not_eq_false', Int.not_lt, Int.not_le, Bool.not_true, Bool.not_false, Int.toNat_natCast, bne_iff_ne, beq_iff_eq, beq_eq_false_iff_ne, ne_eq, Decidable.not_not] at h3)
        refine stG rfl rfl rfl rfl rfl rfl (op_moveO rfl rfl) ?_
        refine stG rfl rfl rfl rfl rfl rfl (op_lss rfl rfl rfl) ?_
        refine st rfl rfl rfl (op_pickTO rfl rfl rfl) ?_
        refine st rfl rfl rfl (op_moveO rfl rfl) ?_
        refine AOps_split 54 rfl (fun h4 => ?_) (fun h4 => ?_)
        · rw [h4]; (try simp only [decide_eq_true_eq, decide_eq_false_iff_not, Bool.not_eq_true', Bool.not_eq_false', Int.not_lt, Int.not_le, Bool.not_true, Bool.not_false, Int.toNat_natCast, bne_iff_ne, beq_iff_eq, beq_eq_false_iff_ne, ne_eq, Decidable.not_not] at h4)
          refine stG rfl rfl rfl rfl rfl rfl (op_moveO rfl rfl) ?_
          refine stG rfl rfl rfl rfl rfl rfl (op_callF rfl rfl rfl Tryd.func9 rfl rfl (pof_c k _ (by omega) (by omega))) ?_
          refine stG rfl rfl rfl rfl rfl rfl (op_moveO rfl rfl) ?_
          refine stG rfl rfl rfl rfl rfl rfl (op_callF rfl rfl rfl Tryd.func10 rfl rfl (rof2_c k _ (by omega) (by omega))) ?_
          refine stG rfl rfl rfl rfl rfl rfl (op_neSR rfl Tryd.underlying24 (by kernel_rfl) (by kernel_rfl) (.bool _ _ _ _ _ _ _ _ (by decide) rfl Tryd.underlying4 (.str _ _ _ _ _ _ _ _ (by decide) rfl Tryd.underlying9 (.int _ _ _ _ _ _ _ _ _ _ (by decide) rfl Tryd.underlying3 (.nil _)))) rfl rfl (by simp)) ?_
          refine st rfl rfl rfl (op_pickTO rfl rfl rfl) ?_
          refine AOps_nil ?_
          refine AWp_condF rfl ?_
          refine AWp_skip ?_
          refine AWp_seq ?_
          -- region 11 law.go:33 DRAWN
          refine AWp_drawL #[0, 1, 3, 7, 3, 31, 63, 127, 255, 511, 1023, 511, 4095, 8191, 16383, 32767, 65535, 131071, 262143, 524287, 524287, 2097151, 524287, 524287, 16777215, 33554431, 67108863, 134217727, 268435455] Tryd.mixed (by decide +kernel) (by decide +kernel) ?_
          refine rA rfl rfl rfl rfl (fun _ => op_moveO rfl rfl) ?_
          refine rA rfl rfl rfl rfl (fun _ => op_moveO rfl rfl) ?_
          refine rPG rfl rfl rfl rfl rfl rfl rfl (op_loadK (cs := [_, _, _]) rfl Tryd.isAgg24 Tryd.sizeOf24 (by first | exact ldv_own rfl rfl | exact ldv_pp rfl | exact ldv_old (by assumption) rfl | exact ldv_ptr (by assumption) rfl)) (trivial) ?_
          refine rPG rfl rfl rfl rfl rfl rfl rfl (op_callF rfl rfl rfl Tryd.func11 rfl rfl (pshow_c x _ hmx.bnd)) (trivial) ?_
          refine rPG rfl rfl rfl rfl rfl rfl rfl (op_loadK (cs := [_, _, _]) rfl Tryd.isAgg24 Tryd.sizeOf24 (by first | exact ldv_own rfl rfl | exact ldv_pp rfl | exact ldv_old (by assumption) rfl | exact ldv_ptr (by assumption) rfl)) (trivial) ?_
          refine rPG rfl rfl rfl rfl rfl rfl rfl (op_callF rfl rfl rfl Tryd.func12 rfl rfl (rshow_c x _ hmx.bnd)) (trivial) ?_
          refine rAG rfl rfl rfl rfl rfl rfl rfl (fun _ => op_seqT rfl rfl rfl rfl) ?_
          refine rA rfl rfl rfl rfl (fun _ => op_pickTO rfl rfl rfl) ?_
          refine rA rfl rfl rfl rfl (fun _ => op_moveO rfl rfl) ?_
          refine rPG rfl rfl rfl rfl rfl rfl rfl (op_loadK (cs := [_, _, _]) rfl Tryd.isAgg24 Tryd.sizeOf24 (by first | exact ldv_own rfl rfl | exact ldv_pp rfl | exact ldv_old (by assumption) rfl | exact ldv_ptr (by assumption) rfl)) (trivial) ?_
          refine rPG rfl rfl rfl rfl rfl rfl rfl (op_callF rfl rfl rfl Tryd.func13 rfl rfl (pwholeR_c x _ hmx)) (trivial) ?_
          refine rPG rfl rfl rfl rfl rfl rfl rfl (op_loadK (cs := [_, _, _]) rfl Tryd.isAgg24 Tryd.sizeOf24 (by first | exact ldv_own rfl rfl | exact ldv_pp rfl | exact ldv_old (by assumption) rfl | exact ldv_ptr (by assumption) rfl)) (trivial) ?_
          refine rPG rfl rfl rfl rfl rfl rfl rfl (op_callF rfl rfl rfl Tryd.func14 rfl rfl (rwhole_c x _)) (trivial) ?_
          refine rAG rfl rfl rfl rfl rfl rfl rfl (fun _ => op_beqlS rfl Tryd.underlying4 rfl rfl) ?_
          refine rA rfl rfl rfl rfl (fun _ => op_pickTO rfl rfl rfl) ?_
          refine rA rfl rfl rfl rfl (fun _ => op_moveO rfl rfl) ?_
          refine rAG rfl rfl rfl rfl rfl rfl rfl (fun _ => op_moveO rfl rfl) ?_
          refine rAG rfl rfl rfl rfl rfl rfl rfl (fun _ => op_neq rfl rfl rfl) ?_
          refine rAG rfl rfl rfl rfl rfl rfl rfl (fun _ => op_moveO rfl rfl) ?_
          refine RP_split 79 rfl (fun h5 => ?_) (fun h5 => ?_)
          · rw [h5]; (try simp only [decide_eq_true_eq, decide_eq_false_iff_not, Bool.not_eq_true', Bool.not_eq_false', Int.not_lt, Int.not_le, Bool.not_true, Bool.not_false, Int.toNat_natCast, bne_iff_ne, beq_iff_eq, beq_eq_false_iff_ne, ne_eq, Decidable.not_not] at h5)
            refine rS rfl rfl rfl rfl (.inl rfl) rfl rfl ?_
            refine rS rfl rfl rfl rfl (.inl rfl) rfl rfl ?_
            refine rS rfl rfl rfl rfl (.inl rfl) rfl rfl ?_
            refine rS rfl rfl rfl rfl (.inl rfl) rfl rfl ?_
            refine rS rfl rfl rfl rfl (.inl rfl) rfl rfl ?_
            refine rS rfl rfl rfl rfl (.inl rfl) rfl rfl ?_
            refine rS rfl rfl rfl rfl (.inl rfl) rfl rfl ?_
            refine rAG rfl rfl rfl rfl rfl rfl rfl (fun _ => op_pickTO rfl rfl rfl) ?_
            refine rA rfl rfl rfl rfl (fun _ => op_pickTO rfl rfl rfl) ?_
            refine rA rfl rfl rfl rfl (fun _ => op_assignO rfl rfl) ?_
            refine RP.nil rfl ?_
            refine AWp_ret ?_
            (try simp only [blockQ, thenQ])
            exact ResQ_1 rfl hcl trivial ⟨rfl, rfl⟩
          · rw [h5]; (try simp only [decide_eq_true_eq, decide_eq_false_iff_not, Bool.not_eq_true', Bool.not_eq_false', Int.not_lt, Int.not_le, Bool.not_true, Bool.not_false, Int.toNat_natCast, bne_iff_ne, beq_iff_eq, beq_eq_false_iff_ne, ne_eq, Decidable.not_not] at h5)
            refine rPG rfl rfl rfl rfl rfl rfl rfl (op_loadK (cs := [_, _, _]) rfl Tryd.isAgg24 Tryd.sizeOf24 (by first | exact ldv_own rfl rfl | exact ldv_pp rfl | exact ldv_old (by assumption) rfl | exact ldv_ptr (by assumption) rfl)) (trivial) ?_
            refine rPG rfl rfl rfl rfl rfl rfl rfl (op_loadK (cs := [_, _, _]) rfl Tryd.isAgg24 Tryd.sizeOf24 (by first | exact ldv_own rfl rfl | exact ldv_pp rfl | exact ldv_old (by assumption) rfl | exact ldv_ptr (by assumption) rfl)) (trivial) ?_
            refine rPG rfl rfl rfl rfl rfl rfl rfl (op_callF rfl rfl rfl Tryd.func15 rfl rfl (pcmpR_c x y _ hmx hmy)) (trivial) ?_
            refine rPG rfl rfl rfl rfl rfl rfl rfl (op_loadK (cs := [_, _, _]) rfl Tryd.isAgg24 Tryd.sizeOf24 (by first | exact ldv_own rfl rfl | exact ldv_pp rfl | exact ldv_old (by assumption) rfl | exact ldv_ptr (by assumption) rfl)) (trivial) ?_
            refine rPG rfl rfl rfl rfl rfl rfl rfl (op_loadK (cs := [_, _, _]) rfl Tryd.isAgg24 Tryd.sizeOf24 (by first | exact ldv_own rfl rfl | exact ldv_pp rfl | exact ldv_old (by assumption) rfl | exact ldv_ptr (by assumption) rfl)) (trivial) ?_
            refine rPG rfl rfl rfl rfl rfl rfl rfl (op_callF rfl rfl rfl Tryd.func16 rfl rfl (rcmpP_c x y _ hmx hmy)) (trivial) ?_
            refine rAG rfl rfl rfl rfl rfl rfl rfl (fun _ => op_eqlT rfl rfl rfl rfl) ?_
            refine rAG rfl rfl rfl rfl rfl rfl rfl (fun _ => op_pickFO rfl rfl rfl) ?_
            refine rA rfl rfl rfl rfl (fun _ => op_pickTO rfl rfl rfl) ?_
            refine rA rfl rfl rfl rfl (fun _ => op_assignO rfl rfl) ?_
            refine RP.nil rfl ?_
            refine AWp_ret ?_
            (try simp only [blockQ, thenQ])
            exact ResQ_1 rfl hcl trivial ⟨rfl, rfl⟩
        · rw [h4]; (try simp only [decide_eq_true_eq, decide_eq_false_iff_not, Bool.not_eq_true', Bool.not_eq_false', Int.not_lt, Int.not_le, Bool.not_true, Bool.not_false, Int.toNat_natCast, bne_iff_ne, beq_iff_eq, beq_eq_false_iff_ne, ne_eq, Decidable.not_not] at h4)
          refine stS rfl rfl rfl (.inl rfl) rfl rfl ?_
          refine stS rfl rfl rfl (.inl rfl) rfl rfl ?_
          refine stS rfl rfl rfl (.inl rfl) rfl rfl ?_
          refine stS rfl rfl rfl (.inl rfl) rfl rfl ?_
          refine stS rfl rfl rfl (.inl rfl) rfl rfl ?_
          refine st rfl rfl rfl (op_pickFO rfl rfl rfl) ?_
          refine AOps_nil ?_
          refine AWp_condF rfl ?_
          refine AWp_skip ?_
          refine AWp_seq ?_
          -- region 11 law.go:33 DRAWN
          refine AWp_drawL #[0, 1, 3, 7, 3, 31, 63, 127, 255, 511, 1023, 511, 4095, 8191, 16383, 32767, 65535, 131071, 262143, 524287, 524287, 2097151, 524287, 524287, 16777215, 33554431, 67108863, 134217727, 268435455] Tryd.mixed (by decide +kernel) (by decide +kernel) ?_
          refine rA rfl rfl rfl rfl (fun _ => op_moveO rfl rfl) ?_
          refine rA rfl rfl rfl rfl (fun _ => op_moveO rfl rfl) ?_
          refine rPG rfl rfl rfl rfl rfl rfl rfl (op_loadK (cs := [_, _, _]) rfl Tryd.isAgg24 Tryd.sizeOf24 (by first | exact ldv_own rfl rfl | exact ldv_pp rfl | exact ldv_old (by assumption) rfl | exact ldv_ptr (by assumption) rfl)) (trivial) ?_
          refine rPG rfl rfl rfl rfl rfl rfl rfl (op_callF rfl rfl rfl Tryd.func11 rfl rfl (pshow_c x _ hmx.bnd)) (trivial) ?_
          refine rPG rfl rfl rfl rfl rfl rfl rfl (op_loadK (cs := [_, _, _]) rfl Tryd.isAgg24 Tryd.sizeOf24 (by first | exact ldv_own rfl rfl | exact ldv_pp rfl | exact ldv_old (by assumption) rfl | exact ldv_ptr (by assumption) rfl)) (trivial) ?_
          refine rPG rfl rfl rfl rfl rfl rfl rfl (op_callF rfl rfl rfl Tryd.func12 rfl rfl (rshow_c x _ hmx.bnd)) (trivial) ?_
          refine rAG rfl rfl rfl rfl rfl rfl rfl (fun _ => op_seqT rfl rfl rfl rfl) ?_
          refine rA rfl rfl rfl rfl (fun _ => op_pickTO rfl rfl rfl) ?_
          refine rA rfl rfl rfl rfl (fun _ => op_moveO rfl rfl) ?_
          refine rPG rfl rfl rfl rfl rfl rfl rfl (op_loadK (cs := [_, _, _]) rfl Tryd.isAgg24 Tryd.sizeOf24 (by first | exact ldv_own rfl rfl | exact ldv_pp rfl | exact ldv_old (by assumption) rfl | exact ldv_ptr (by assumption) rfl)) (trivial) ?_
          refine rPG rfl rfl rfl rfl rfl rfl rfl (op_callF rfl rfl rfl Tryd.func13 rfl rfl (pwholeR_c x _ hmx)) (trivial) ?_
          refine rPG rfl rfl rfl rfl rfl rfl rfl (op_loadK (cs := [_, _, _]) rfl Tryd.isAgg24 Tryd.sizeOf24 (by first | exact ldv_own rfl rfl | exact ldv_pp rfl | exact ldv_old (by assumption) rfl | exact ldv_ptr (by assumption) rfl)) (trivial) ?_
          refine rPG rfl rfl rfl rfl rfl rfl rfl (op_callF rfl rfl rfl Tryd.func14 rfl rfl (rwhole_c x _)) (trivial) ?_
          refine rAG rfl rfl rfl rfl rfl rfl rfl (fun _ => op_beqlS rfl Tryd.underlying4 rfl rfl) ?_
          refine rA rfl rfl rfl rfl (fun _ => op_pickTO rfl rfl rfl) ?_
          refine rA rfl rfl rfl rfl (fun _ => op_moveO rfl rfl) ?_
          refine rAG rfl rfl rfl rfl rfl rfl rfl (fun _ => op_moveO rfl rfl) ?_
          refine rAG rfl rfl rfl rfl rfl rfl rfl (fun _ => op_neq rfl rfl rfl) ?_
          refine rAG rfl rfl rfl rfl rfl rfl rfl (fun _ => op_moveO rfl rfl) ?_
          refine RP_split 79 rfl (fun h6 => ?_) (fun h6 => ?_)
          · rw [h6]; (try simp only [decide_eq_true_eq, decide_eq_false_iff_not, Bool.not_eq_true', Bool.not_eq_false', Int.not_lt, Int.not_le, Bool.not_true, Bool.not_false, Int.toNat_natCast, bne_iff_ne, beq_iff_eq, beq_eq_false_iff_ne, ne_eq, Decidable.not_not] at h6)
            refine rS rfl rfl rfl rfl (.inl rfl) rfl rfl ?_
            refine rS rfl rfl rfl rfl (.inl rfl) rfl rfl ?_
            refine rS rfl rfl rfl rfl (.inl rfl) rfl rfl ?_
            refine rS rfl rfl rfl rfl (.inl rfl) rfl rfl ?_
            refine rS rfl rfl rfl rfl (.inl rfl) rfl rfl ?_
            refine rS rfl rfl rfl rfl (.inl rfl) rfl rfl ?_
            refine rS rfl rfl rfl rfl (.inl rfl) rfl rfl ?_
            refine rAG rfl rfl rfl rfl rfl rfl rfl (fun _ => op_pickTO rfl rfl rfl) ?_
            refine rA rfl rfl rfl rfl (fun _ => op_pickTO rfl rfl rfl) ?_
            refine rA rfl rfl rfl rfl (fun _ => op_assignO rfl rfl) ?_
            refine RP.nil rfl ?_
            refine AWp_ret ?_
            (try simp only [blockQ, thenQ])
            exact ResQ_1 rfl hcl trivial ⟨rfl, rfl⟩
          · rw [h6]; (try simp only [decide_eq_true_eq, decide_eq_false_iff_not, Bool.not_eq_true', Bool.not_eq_false', Int.not_lt, Int.not_le, Bool.not_true, Bool.not_false, Int.toNat_natCast, bne_iff_ne, beq_iff_eq, beq_eq_false_iff_ne, ne_eq, Decidable.not_not] at h6)
            refine rPG rfl rfl rfl rfl rfl rfl rfl (op_loadK (cs := [_, _, _]) rfl Tryd.isAgg24 Tryd.sizeOf24 (by first | exact ldv_own rfl rfl | exact ldv_pp rfl | exact ldv_old (by assumption) rfl | exact ldv_ptr (by assumption) rfl)) (trivial) ?_
            refine rPG rfl rfl rfl rfl rfl rfl rfl (op_loadK (cs := [_, _, _]) rfl Tryd.isAgg24 Tryd.sizeOf24 (by first | exact ldv_own rfl rfl | exact ldv_pp rfl | exact ldv_old (by assumption) rfl | exact ldv_ptr (by assumption) rfl)) (trivial) ?_
            refine rPG rfl rfl rfl rfl rfl rfl rfl (op_callF rfl rfl rfl Tryd.func15 rfl rfl (pcmpR_c x y _ hmx hmy)) (trivial) ?_
            refine rPG rfl rfl rfl rfl rfl rfl rfl (op_loadK (cs := [_, _, _]) rfl Tryd.isAgg24 Tryd.sizeOf24 (by first | exact ldv_own rfl rfl | exact ldv_pp rfl | exact ldv_old (by assumption) rfl | exact ldv_ptr (by assumption) rfl)) (trivial) ?_
            refine rPG rfl rfl rfl rfl rfl rfl rfl (op_loadK (cs := [_, _, _]) rfl Tryd.isAgg24 Tryd.sizeOf24 (by first | exact ldv_own rfl rfl | exact ldv_pp rfl | exact ldv_old (by assumption) rfl | exact ldv_ptr (by assumption) rfl)) (trivial) ?_
            refine rPG rfl rfl rfl rfl rfl rfl rfl (op_callF rfl rfl rfl Tryd.func16 rfl rfl (rcmpP_c x y _ hmx hmy)) (trivial) ?_
            refine rAG rfl rfl rfl rfl rfl rfl rfl (fun _ => op_eqlT rfl rfl rfl rfl) ?_
            refine rAG rfl rfl rfl rfl rfl rfl rfl (fun _ => op_pickFO rfl rfl rfl) ?_
            refine rA rfl rfl rfl rfl (fun _ => op_pickTO rfl rfl rfl) ?_
            refine rA rfl rfl rfl rfl (fun _ => op_assignO rfl rfl) ?_
            refine RP.nil rfl ?_
            refine AWp_ret ?_
            (try simp only [blockQ, thenQ])
            exact ResQ_1 rfl hcl trivial ⟨rfl, rfl⟩
      · rw [h3]; (try simp only [decide_eq_true_eq, decide_eq_false_iff_not, Bool.not_eq_true', Bool.not_eq_false', Int.not_lt, Int.not_le, Bool.not_true, Bool.not_false, Int.toNat_natCast, bne_iff_ne, beq_iff_eq, beq_eq_false_iff_ne, ne_eq, Decidable.not_not] at h3)
        refine stS rfl rfl rfl (.inl rfl) rfl rfl ?_
        refine stS rfl rfl rfl (.inl rfl) rfl rfl ?_
        refine st rfl rfl rfl (op_pickFO rfl rfl rfl) ?_
        refine st rfl rfl rfl (op_moveO rfl rfl) ?_
        refine stS rfl rfl rfl (.inl rfl) rfl rfl ?_
        refine stS rfl rfl rfl (.inl rfl) rfl rfl ?_
        refine stS rfl rfl rfl (.inl rfl) rfl rfl ?_
        refine stS rfl rfl rfl (.inl rfl) rfl rfl ?_
        refine stS rfl rfl rfl (.inl rfl) rfl rfl ?_
        refine st rfl rfl rfl (op_pickFO rfl rfl rfl) ?_
        refine AOps_nil ?_
        refine AWp_condF rfl ?_
        refine AWp_skip ?_
        refine AWp_seq ?_
        -- region 11 law.go:33 DRAWN
        refine AWp_drawL #[0, 1, 3, 7, 3, 31, 63, 127, 255, 511, 1023, 511, 4095, 8191, 16383, 32767, 65535, 131071, 262143, 524287, 524287, 2097151, 524287, 524287, 16777215, 33554431, 67108863, 134217727, 268435455] Tryd.mixed (by decide +kernel) (by decide +kernel) ?_
        refine rA rfl rfl rfl rfl (fun _ => op_moveO rfl rfl) ?_
        refine rA rfl rfl rfl rfl (fun _ => op_moveO rfl rfl) ?_
        refine rPG rfl rfl rfl rfl rfl rfl rfl (op_loadK (cs := [_, _, _]) rfl Tryd.isAgg24 Tryd.sizeOf24 (by first | exact ldv_own rfl rfl | exact ldv_pp rfl | exact ldv_old (by assumption) rfl | exact ldv_ptr (by assumption) rfl)) (trivial) ?_
        refine rPG rfl rfl rfl rfl rfl rfl rfl (op_callF rfl rfl rfl Tryd.func11 rfl rfl (pshow_c x _ hmx.bnd)) (trivial) ?_
        refine rPG rfl rfl rfl rfl rfl rfl rfl (op_loadK (cs := [_, _, _]) rfl Tryd.isAgg24 Tryd.sizeOf24 (by first | exact ldv_own rfl rfl | exact ldv_pp rfl | exact ldv_old (by assumption) rfl | exact ldv_ptr (by assumption) rfl)) (trivial) ?_
        refine rPG rfl rfl rfl rfl rfl rfl rfl (op_callF rfl rfl rfl Tryd.func12 rfl rfl (rshow_c x _ hmx.bnd)) (trivial) ?_
        refine rAG rfl rfl rfl rfl rfl rfl rfl (fun _ => op_seqT rfl rfl rfl rfl) ?_
        refine rA rfl rfl rfl rfl (fun _ => op_pickTO rfl rfl rfl) ?_
        refine rA rfl rfl rfl rfl (fun _ => op_moveO rfl rfl) ?_
        refine rPG rfl rfl rfl rfl rfl rfl rfl (op_loadK (cs := [_, _, _]) rfl Tryd.isAgg24 Tryd.sizeOf24 (by first | exact ldv_own rfl rfl | exact ldv_pp rfl | exact ldv_old (by assumption) rfl | exact ldv_ptr (by assumption) rfl)) (trivial) ?_
        refine rPG rfl rfl rfl rfl rfl rfl rfl (op_callF rfl rfl rfl Tryd.func13 rfl rfl (pwholeR_c x _ hmx)) (trivial) ?_
        refine rPG rfl rfl rfl rfl rfl rfl rfl (op_loadK (cs := [_, _, _]) rfl Tryd.isAgg24 Tryd.sizeOf24 (by first | exact ldv_own rfl rfl | exact ldv_pp rfl | exact ldv_old (by assumption) rfl | exact ldv_ptr (by assumption) rfl)) (trivial) ?_
        refine rPG rfl rfl rfl rfl rfl rfl rfl (op_callF rfl rfl rfl Tryd.func14 rfl rfl (rwhole_c x _)) (trivial) ?_
        refine rAG rfl rfl rfl rfl rfl rfl rfl (fun _ => op_beqlS rfl Tryd.underlying4 rfl rfl) ?_
        refine rA rfl rfl rfl rfl (fun _ => op_pickTO rfl rfl rfl) ?_
        refine rA rfl rfl rfl rfl (fun _ => op_moveO rfl rfl) ?_
        refine rAG rfl rfl rfl rfl rfl rfl rfl (fun _ => op_moveO rfl rfl) ?_
        refine rAG rfl rfl rfl rfl rfl rfl rfl (fun _ => op_neq rfl rfl rfl) ?_
        refine rAG rfl rfl rfl rfl rfl rfl rfl (fun _ => op_moveO rfl rfl) ?_
        refine RP_split 79 rfl (fun h7 => ?_) (fun h7 => ?_)
        · rw [h7]; (try simp only [decide_eq_true_eq, decide_eq_false_iff_not, Bool.not_eq_true', Bool.not_eq_false', Int.not_lt, Int.not_le, Bool.not_true, Bool.not_false, Int.toNat_natCast, bne_iff_ne, beq_iff_eq, beq_eq_false_iff_ne, ne_eq, Decidable.not_not] at h7)
          refine rS rfl rfl rfl rfl (.inl rfl) rfl rfl ?_
          refine rS rfl rfl rfl rfl (.inl rfl) rfl rfl ?_
          refine rS rfl rfl rfl rfl (.inl rfl) rfl rfl ?_
          refine rS rfl rfl rfl rfl (.inl rfl) rfl rfl ?_
          refine rS rfl rfl rfl rfl (.inl rfl) rfl rfl ?_
          refine rS rfl rfl rfl rfl (.inl rfl) rfl rfl ?_
          refine rS rfl rfl rfl rfl (.inl rfl) rfl rfl ?_
          refine rAG rfl rfl rfl rfl rfl rfl rfl (fun _ => op_pickTO rfl rfl rfl) ?_
          refine rA rfl rfl rfl rfl (fun _ => op_pickTO rfl rfl rfl) ?_
          refine rA rfl rfl rfl rfl (fun _ => op_assignO rfl rfl) ?_
          refine RP.nil rfl ?_
          refine AWp_ret ?_
          (try simp only [blockQ, thenQ])
          exact ResQ_1 rfl hcl trivial ⟨rfl, rfl⟩
        · rw [h7]; (try simp only [decide_eq_true_eq, decide_eq_false_iff_not, Bool.not_eq_true', Bool.not_eq_false', Int.not_lt, Int.not_le, Bool.not_true, Bool.not_false, Int.toNat_natCast, bne_iff_ne, beq_iff_eq, beq_eq_false_iff_ne, ne_eq, Decidable.not_not] at h7)
          refine rPG rfl rfl rfl rfl rfl rfl rfl (op_loadK (cs := [_, _, _]) rfl Tryd.isAgg24 Tryd.sizeOf24 (by first | exact ldv_own rfl rfl | exact ldv_pp rfl | exact ldv_old (by assumption) rfl | exact ldv_ptr (by assumption) rfl)) (trivial) ?_
          refine rPG rfl rfl rfl rfl rfl rfl rfl (op_loadK (cs := [_, _, _]) rfl Tryd.isAgg24 Tryd.sizeOf24 (by first | exact ldv_own rfl rfl | exact ldv_pp rfl | exact ldv_old (by assumption) rfl | exact ldv_ptr (by assumption) rfl)) (trivial) ?_
          refine rPG rfl rfl rfl rfl rfl rfl rfl (op_callF rfl rfl rfl Tryd.func15 rfl rfl (pcmpR_c x y _ hmx hmy)) (trivial) ?_
          refine rPG rfl rfl rfl rfl rfl rfl rfl (op_loadK (cs := [_, _, _]) rfl Tryd.isAgg24 Tryd.sizeOf24 (by first | exact ldv_own rfl rfl | exact ldv_pp rfl | exact ldv_old (by assumption) rfl | exact ldv_ptr (by assumption) rfl)) (trivial) ?_
          refine rPG rfl rfl rfl rfl rfl rfl rfl (op_loadK (cs := [_, _, _]) rfl Tryd.isAgg24 Tryd.sizeOf24 (by first | exact ldv_own rfl rfl | exact ldv_pp rfl | exact ldv_old (by assumption) rfl | exact ldv_ptr (by assumption) rfl)) (trivial) ?_
          refine rPG rfl rfl rfl rfl rfl rfl rfl (op_callF rfl rfl rfl Tryd.func16 rfl rfl (rcmpP_c x y _ hmx hmy)) (trivial) ?_
          refine rAG rfl rfl rfl rfl rfl rfl rfl (fun _ => op_eqlT rfl rfl rfl rfl) ?_
          refine rAG rfl rfl rfl rfl rfl rfl rfl (fun _ => op_pickFO rfl rfl rfl) ?_
          refine rA rfl rfl rfl rfl (fun _ => op_pickTO rfl rfl rfl) ?_
          refine rA rfl rfl rfl rfl (fun _ => op_assignO rfl rfl) ?_
          refine RP.nil rfl ?_
          refine AWp_ret ?_
          (try simp only [blockQ, thenQ])
          exact ResQ_1 rfl hcl trivial ⟨rfl, rfl⟩

end Lg
set_option maxRecDepth 20000
set_option maxHeartbeats 4000000
namespace Lg
open Go Go.Proofs Go.RowKit
variable [GLay] [S10]


theorem numBack_c (s t u : ByteArray) (k : Int) (σ : List AO) : ACalls Tryd.prog 4 [.str s, .str t, .str u, .int .i64 k] σ (Ret (.bool true) σ) := by
  refine ACalls_body Tryd.func4 rfl Tryd.ntmps4 (res1 Tryd.results4) (Nat.le_of_ble_eq_true rfl) (fun hcl hal => ?_)
  refine AWp_seq ?_
  -- region 0 law.go:37
  refine AWp_regL ?_
  refine st rfl rfl rfl (op_assignO rfl rfl) ?_
  refine AOps_nil ?_
  refine AWp_seq ?_
  -- region 1 law.go:38
  refine AWp_regL ?_
  refine st rfl rfl rfl (op_callF rfl rfl rfl Tryd.func5 rfl rfl (up1_c _)) ?_
  refine st rfl rfl rfl (op_assignO rfl rfl) ?_
  refine AOps_nil ?_
  refine AWp_seq ?_
  refine AWp_seq ?_
  -- region 2 law.go:39
  refine AWp_regL ?_
  refine st rfl rfl rfl (op_moveO rfl rfl) ?_
  refine st rfl rfl rfl (op_lenStr rfl rfl Tryd.underlying9 rfl) ?_
  refine st rfl rfl rfl (op_gtr rfl rfl rfl) ?_
  refine st rfl rfl rfl (op_moveO rfl rfl) ?_
  refine AOps_split 22 rfl (fun h1 => ?_) (fun h1 => ?_)
  · rw [h1]; (try simp only [decide_eq_true_eq, decide_eq_false_iff_not, Bool.not_eq_true', Bool.not_eq_false', Int.not_lt, Int.not_le, Bool.not_true, Bool.not_false, Int.toNat_natCast, bne_iff_ne, beq_iff_eq, beq_eq_false_iff_ne, ne_eq, Decidable.not_not] at h1)
    refine stS rfl rfl rfl (.inl rfl) rfl rfl ?_
    refine stS rfl rfl rfl (.inl rfl) rfl rfl ?_
    refine stS rfl rfl rfl (.inl rfl) rfl rfl ?_
    refine st rfl rfl rfl (op_pickTO rfl rfl rfl) ?_
    refine st rfl rfl rfl (op_moveO rfl rfl) ?_
    refine stS rfl rfl rfl (.inl rfl) rfl rfl ?_
    refine stS rfl rfl rfl (.inl rfl) rfl rfl ?_
    refine stS rfl rfl rfl (.inl rfl) rfl rfl ?_
    refine st rfl rfl rfl (op_pickTO rfl rfl rfl) ?_
    refine AOps_nil ?_
    refine AWp_condT rfl ?_
    refine AWp_seq ?_
    -- region 3 law.go:40
    refine AWp_regL ?_
    refine st rfl rfl rfl (op_moveO rfl rfl) ?_
    refine st rfl rfl rfl (op_assignO rfl rfl) ?_
    refine AOps_nil ?_
    refine AWp_ret ?_
    (try simp only [blockQ, thenQ])
    first | exact ResQ_10 rfl hcl trivial ⟨rfl, rfl⟩ | (exfalso; have := pCmp_trans hmx hmy hmz (by omega) (by omega); omega)
  · rw [h1]; (try simp only [decide_eq_true_eq, decide_eq_false_iff_not, Bool.not_eq_true', Bool.not_eq_false', Int.not_lt, Int.not_le, Bool.not_true, Bool.not_false, Int.toNat_natCast, bne_iff_ne, beq_iff_eq, beq_eq_false_iff_ne, ne_eq, Decidable.not_not] at h1)
    refine stG rfl rfl rfl rfl rfl rfl (op_moveO rfl rfl) ?_
    refine stG rfl rfl rfl rfl rfl rfl (op_lenStr rfl rfl Tryd.underlying9 rfl) ?_
    refine stG rfl rfl rfl rfl rfl rfl (op_gtr rfl rfl rfl) ?_
    refine st rfl rfl rfl (op_pickFO rfl rfl rfl) ?_
    refine st rfl rfl rfl (op_moveO rfl rfl) ?_
    refine AOps_split 27 rfl (fun h2 => ?_) (fun h2 => ?_)
    · rw [h2]; (try simp only [decide_eq_true_eq, decide_eq_false_iff_not, Bool.not_eq_true', Bool.not_eq_false', Int.not_lt, Int.not_le, Bool.not_true, Bool.not_false, Int.toNat_natCast, bne_iff_ne, beq_iff_eq, beq_eq_false_iff_ne, ne_eq, Decidable.not_not] at h2)
      refine stS rfl rfl rfl (.inl rfl) rfl rfl ?_
      refine stS rfl rfl rfl (.inl rfl) rfl rfl ?_
      refine stS rfl rfl rfl (.inl rfl) rfl rfl ?_
      refine st rfl rfl rfl (op_pickTO rfl rfl rfl) ?_
      refine AOps_nil ?_
      refine AWp_condT rfl ?_
      refine AWp_seq ?_
      -- region 3 law.go:40
      refine AWp_regL ?_
      refine st rfl rfl rfl (op_moveO rfl rfl) ?_
      refine st rfl rfl rfl (op_assignO rfl rfl) ?_
      refine AOps_nil ?_
      refine AWp_ret ?_
      (try simp only [blockQ, thenQ])
      first | exact ResQ_10 rfl hcl trivial ⟨rfl, rfl⟩ | (exfalso; have := pCmp_trans hmx hmy hmz (by omega) (by omega); omega)
    · rw [h2]; (try simp only [decide_eq_true_eq, decide_eq_false_iff_not, Bool.not_eq_true', Bool.not_eq_false', Int.not_lt, Int.not_le, Bool.not_true, Bool.not_false, Int.toNat_natCast, bne_iff_ne, beq_iff_eq, beq_eq_false_iff_ne, ne_eq, Decidable.not_not] at h2)
      refine stG rfl rfl rfl rfl rfl rfl (op_moveO rfl rfl) ?_
      refine stG rfl rfl rfl rfl rfl rfl (op_lenStr rfl rfl Tryd.underlying9 rfl) ?_
      refine stG rfl rfl rfl rfl rfl rfl (op_gtr rfl rfl rfl) ?_
      refine st rfl rfl rfl (op_pickFO rfl rfl rfl) ?_
      refine AOps_nil ?_
      refine AWp_cond rfl (fun h3 => ?_) (fun h3 => ?_)
      · (try rw [h3]); (try simp only [decide_eq_true_eq, decide_eq_false_iff_not, Bool.not_eq_true', Bool.not_eq_false', Int.not_lt, Int.not_le, Bool.not_true, Bool.not_false, Int.toNat_natCast, bne_iff_ne, beq_iff_eq, beq_eq_false_iff_ne, ne_eq, Decidable.not_not] at h3)
        refine AWp_seq ?_
        -- region 3 law.go:40
        refine AWp_regL ?_
        refine st rfl rfl rfl (op_moveO rfl rfl) ?_
        refine st rfl rfl rfl (op_assignO rfl rfl) ?_
        refine AOps_nil ?_
        refine AWp_ret ?_
        (try simp only [blockQ, thenQ])
        first | exact ResQ_10 rfl hcl trivial ⟨rfl, rfl⟩ | (exfalso; have := pCmp_trans hmx hmy hmz (by omega) (by omega); omega)
      · (try rw [h3]); (try simp only [decide_eq_true_eq, decide_eq_false_iff_not, Bool.not_eq_true', Bool.not_eq_false', Int.not_lt, Int.not_le, Bool.not_true, Bool.not_false, Int.toNat_natCast, bne_iff_ne, beq_iff_eq, beq_eq_false_iff_ne, ne_eq, Decidable.not_not] at h3)
        refine AWp_skip ?_
        refine AWp_seq ?_
        -- region 4 law.go:42
        obtain ⟨hmx, _⟩ := rNum_mayJ s (by omega)
        obtain ⟨hmy, _⟩ := rNum_mayJ t (by omega)
        obtain ⟨hmz, _⟩ := rNum_mayJ u (by omega)
        refine AWp_regL ?_
        refine st rfl rfl rfl (op_moveO rfl rfl) ?_
        refine st rfl rfl rfl (op_callF rfl rfl rfl Tryd.func6 rfl rfl (pparseS_c s _ (by omega))) ?_
        generalize (rNum s).1 = x at hmx ⊢
        generalize (rNum s).2 = xb
        refine st rfl rfl rfl (op_moveO rfl rfl) ?_
        refine st rfl rfl rfl (op_extract rfl rfl rfl) ?_
        refine st rfl rfl rfl (op_extract rfl rfl rfl) ?_
        refine st rfl rfl rfl (op_alloc0 (cs := [_, _, _]) rfl Tryd.zeroValue24 rfl) ?_
        refine stN rfl rfl ((by first | exact op_storeO (r := [_, _, _]) rfl Tryd.sizeOf24 rfl rfl rfl rfl rfl (by decide) | exact op_storeP (r := [_, _, _]) rfl Tryd.sizeOf24 rfl rfl rfl (by assumption) rfl (by decide))) ?_
        refine st rfl rfl rfl (op_assignO rfl rfl) ?_
        refine AOps_nil ?_
        refine AWp_seq ?_
        -- region 5 law.go:43
        refine AWp_regL ?_
        refine st rfl rfl rfl (op_moveO rfl rfl) ?_
        refine st rfl rfl rfl (op_callF rfl rfl rfl Tryd.func6 rfl rfl (pparseS_c t _ (by omega))) ?_
        generalize (rNum t).1 = y at hmy ⊢
        generalize (rNum t).2 = yb
        refine st rfl rfl rfl (op_moveO rfl rfl) ?_
        refine st rfl rfl rfl (op_extract rfl rfl rfl) ?_
        refine st rfl rfl rfl (op_extract rfl rfl rfl) ?_
        refine st rfl rfl rfl (op_allocO (cs := [_, _, _]) 1 rfl rfl Tryd.zeroValue24 rfl) ?_
        refine stN rfl rfl ((by first | exact op_storeO (r := [_, _, _]) rfl Tryd.sizeOf24 rfl rfl rfl rfl rfl (by decide) | exact op_storeP (r := [_, _, _]) rfl Tryd.sizeOf24 rfl rfl rfl (by assumption) rfl (by decide))) ?_
        refine st rfl rfl rfl (op_assignO rfl rfl) ?_
        refine AOps_nil ?_
        refine AWp_seq ?_
        -- region 6 law.go:44
        refine AWp_regL ?_
        refine st rfl rfl rfl (op_moveO rfl rfl) ?_
        refine st rfl rfl rfl (op_callF rfl rfl rfl Tryd.func6 rfl rfl (pparseS_c u _ (by omega))) ?_
        generalize (rNum u).1 = z at hmz ⊢
        generalize (rNum u).2 = zb
        refine st rfl rfl rfl (op_moveO rfl rfl) ?_
        refine st rfl rfl rfl (op_extract rfl rfl rfl) ?_
        refine st rfl rfl rfl (op_extract rfl rfl rfl) ?_
        refine st rfl rfl rfl (op_allocO (cs := [_, _, _]) 2 rfl rfl Tryd.zeroValue24 rfl) ?_
        refine stN rfl rfl ((by first | exact op_storeO (r := [_, _, _]) rfl Tryd.sizeOf24 rfl rfl rfl rfl rfl (by decide) | exact op_storeP (r := [_, _, _]) rfl Tryd.sizeOf24 rfl rfl rfl (by assumption) rfl (by decide))) ?_
        refine st rfl rfl rfl (op_assignO rfl rfl) ?_
        refine AOps_nil ?_
        refine AWp_seq ?_
        refine AWp_seq ?_
        -- region 7 law.go:45
        refine AWp_regL ?_
        refine st rfl rfl rfl (op_moveO rfl rfl) ?_
        refine st rfl rfl rfl (op_neCerr rfl Tryd.underlying26 rfl) ?_
        refine st rfl rfl rfl (op_moveO rfl rfl) ?_
        refine AOps_split 50 rfl (fun h4 => ?_) (fun h4 => ?_)
        · rw [h4]; (try simp only [decide_eq_true_eq, decide_eq_false_iff_not, Bool.not_eq_true', Bool.not_eq_false', Int.not_lt, Int.not_le, Bool.not_true, Bool.not_false, Int.toNat_natCast, bne_iff_ne, beq_iff_eq, beq_eq_false_iff_ne, ne_eq, Decidable.not_not] at h4)
          refine stS rfl rfl rfl (.inl rfl) rfl rfl ?_
          refine stS rfl rfl rfl (.inl rfl) rfl rfl ?_
          refine st rfl rfl rfl (op_pickTO rfl rfl rfl) ?_
          refine st rfl rfl rfl (op_moveO rfl rfl) ?_
          refine stS rfl rfl rfl (.inl rfl) rfl rfl ?_
          refine stS rfl rfl rfl (.inl rfl) rfl rfl ?_
          refine st rfl rfl rfl (op_pickTO rfl rfl rfl) ?_
          refine AOps_nil ?_
          refine AWp_condT rfl ?_
          refine AWp_seq ?_
          -- region 8 law.go:46
          refine AWp_regL ?_
          refine st rfl rfl rfl (op_moveO rfl rfl) ?_
          refine st rfl rfl rfl (op_assignO rfl rfl) ?_
          refine AOps_nil ?_
          refine AWp_ret ?_
          (try simp only [blockQ, thenQ])
          first | exact ResQ_1 rfl hcl trivial ⟨rfl, rfl⟩ | (exfalso; have := pCmp_trans hmx hmy hmz (by omega) (by omega); omega)
        · rw [h4]; (try simp only [decide_eq_true_eq, decide_eq_false_iff_not, Bool.not_eq_true', Bool.not_eq_false', Int.not_lt, Int.not_le, Bool.not_true, Bool.not_false, Int.toNat_natCast, bne_iff_ne, beq_iff_eq, beq_eq_false_iff_ne, ne_eq, Decidable.not_not] at h4)
          refine stG rfl rfl rfl rfl rfl rfl (op_moveO rfl rfl) ?_
          refine stG rfl rfl rfl rfl rfl rfl (op_neCerr rfl Tryd.underlying26 rfl) ?_
          refine st rfl rfl rfl (op_pickFO rfl rfl rfl) ?_
          refine st rfl rfl rfl (op_moveO rfl rfl) ?_
          refine AOps_split 54 rfl (fun h5 => ?_) (fun h5 => ?_)
          · rw [h5]; (try simp only [decide_eq_true_eq, decide_eq_false_iff_not, Bool.not_eq_true', Bool.not_eq_false', Int.not_lt, Int.not_le, Bool.not_true, Bool.not_false, Int.toNat_natCast, bne_iff_ne, beq_iff_eq, beq_eq_false_iff_ne, ne_eq, Decidable.not_not] at h5)
            refine stS rfl rfl rfl (.inl rfl) rfl rfl ?_
            refine stS rfl rfl rfl (.inl rfl) rfl rfl ?_
            refine st rfl rfl rfl (op_pickTO rfl rfl rfl) ?_
            refine AOps_nil ?_
            refine AWp_condT rfl ?_
            refine AWp_seq ?_
            -- region 8 law.go:46
            refine AWp_regL ?_
            refine st rfl rfl rfl (op_moveO rfl rfl) ?_
            refine st rfl rfl rfl (op_assignO rfl rfl) ?_
            refine AOps_nil ?_
            refine AWp_ret ?_
            (try simp only [blockQ, thenQ])
            first | exact ResQ_1 rfl hcl trivial ⟨rfl, rfl⟩ | (exfalso; have := pCmp_trans hmx hmy hmz (by omega) (by omega); omega)
          · rw [h5]; (try simp only [decide_eq_true_eq, decide_eq_false_iff_not, Bool.not_eq_true', Bool.not_eq_false', Int.not_lt, Int.not_le, Bool.not_true, Bool.not_false, Int.toNat_natCast, bne_iff_ne, beq_iff_eq, beq_eq_false_iff_ne, ne_eq, Decidable.not_not] at h5)
            refine stG rfl rfl rfl rfl rfl rfl (op_moveO rfl rfl) ?_
            refine stG rfl rfl rfl rfl rfl rfl (op_neCerr rfl Tryd.underlying26 rfl) ?_
            refine st rfl rfl rfl (op_pickFO rfl rfl rfl) ?_
            refine AOps_nil ?_
            refine AWp_cond rfl (fun h6 => ?_) (fun h6 => ?_)
            · (try rw [h6]); (try simp only [decide_eq_true_eq, decide_eq_false_iff_not, Bool.not_eq_true', Bool.not_eq_false', Int.not_lt, Int.not_le, Bool.not_true, Bool.not_false, Int.toNat_natCast, bne_iff_ne, beq_iff_eq, beq_eq_false_iff_ne, ne_eq, Decidable.not_not] at h6)
              refine AWp_seq ?_
              -- region 8 law.go:46
              refine AWp_regL ?_
              refine st rfl rfl rfl (op_moveO rfl rfl) ?_
              refine st rfl rfl rfl (op_assignO rfl rfl) ?_
              refine AOps_nil ?_
              refine AWp_ret ?_
              (try simp only [blockQ, thenQ])
              first | exact ResQ_1 rfl hcl trivial ⟨rfl, rfl⟩ | (exfalso; have := pCmp_trans hmx hmy hmz (by omega) (by omega); omega)
            · (try rw [h6]); (try simp only [decide_eq_true_eq, decide_eq_false_iff_not, Bool.not_eq_true', Bool.not_eq_false', Int.not_lt, Int.not_le, Bool.not_true, Bool.not_false, Int.toNat_natCast, bne_iff_ne, beq_iff_eq, beq_eq_false_iff_ne, ne_eq, Decidable.not_not] at h6)
              refine AWp_skip ?_
              refine AWp_seq ?_
              -- region 9 law.go:48
              refine AWp_regL ?_
              refine st rfl rfl rfl (op_loadK (cs := [_, _, _]) rfl Tryd.isAgg24 Tryd.sizeOf24 (by first | exact ldv_own rfl rfl | exact ldv_pp rfl | exact ldv_old (by assumption) rfl | exact ldv_ptr (by assumption) rfl)) ?_
              refine st rfl rfl rfl (op_callF rfl rfl rfl Tryd.func11 rfl rfl (pshow_c x _ hmx.bnd)) ?_
              refine st rfl rfl rfl (op_callF rfl rfl rfl Tryd.func6 rfl rfl (back_c x _ hmx)) ?_
              refine st rfl rfl rfl (op_moveO rfl rfl) ?_
              refine st rfl rfl rfl (op_extract rfl rfl rfl) ?_
              refine st rfl rfl rfl (op_extract rfl rfl rfl) ?_
              refine st rfl rfl rfl (op_allocO (cs := [_, _, _]) 3 rfl rfl Tryd.zeroValue24 rfl) ?_
              refine stN rfl rfl ((by first | exact op_storeO (r := [_, _, _]) rfl Tryd.sizeOf24 rfl rfl rfl rfl rfl (by decide) | exact op_storeP (r := [_, _, _]) rfl Tryd.sizeOf24 rfl rfl rfl (by assumption) rfl (by decide))) ?_
              refine st rfl rfl rfl (op_assignO rfl rfl) ?_
              refine AOps_nil ?_
              refine AWp_seq ?_
              refine AWp_seq ?_
              -- region 10 law.go:49 DRAWN
              have hb1 := pCmp_b hmx hmy
              have hb2 := pCmp_b hmy hmx
              have hb3 := pCmp_anti hmx hmy
              refine AWp_drawL #[0, 1, 3, 7, 7, 31, 63, 127, 255, 255, 1023, 255, 255, 8191, 16383, 32767, 65535, 131071, 262143, 262143, 1048575, 2097151, 262143, 262143, 12845055, 33554431, 67108863] Tryd.mixed (by decide +kernel) (by decide +kernel) ?_
              refine rA rfl rfl rfl rfl (fun _ => op_moveO rfl rfl) ?_
              refine rA rfl rfl rfl rfl (fun _ => (by first | exact op_neIN rfl Tryd.underlying26 rfl | exact op_neINil rfl Tryd.underlying26 rfl)) ?_
              refine rA rfl rfl rfl rfl (fun _ => op_moveO rfl rfl) ?_
              refine rPG rfl rfl rfl rfl rfl rfl rfl (op_loadK (cs := [_, _, _]) rfl Tryd.isAgg24 Tryd.sizeOf24 (by first | exact ldv_own rfl rfl | exact ldv_pp rfl | exact ldv_old (by assumption) rfl | exact ldv_ptr (by assumption) rfl)) (trivial) ?_
              refine rPG rfl rfl rfl rfl rfl rfl rfl (op_loadK (cs := [_, _, _]) rfl Tryd.isAgg24 Tryd.sizeOf24 (by first | exact ldv_own rfl rfl | exact ldv_pp rfl | exact ldv_old (by assumption) rfl | exact ldv_ptr (by assumption) rfl)) (trivial) ?_
              refine rAG rfl rfl rfl rfl rfl rfl rfl (fun _ => op_neSR rfl Tryd.underlying24 (by kernel_rfl) (by kernel_rfl) (.bool _ _ _ _ _ _ _ _ (by decide) rfl Tryd.underlying4 (.str _ _ _ _ _ _ _ _ (by decide) rfl Tryd.underlying9 (.int _ _ _ _ _ _ _ _ _ _ (by decide) rfl Tryd.underlying3 (.nil _)))) rfl rfl (by simp)) ?_
              refine rA rfl rfl rfl rfl (fun _ => op_pickFO rfl rfl rfl) ?_
              refine rA rfl rfl rfl rfl (fun _ => op_moveO rfl rfl) ?_
              refine rPG rfl rfl rfl rfl rfl rfl rfl (op_loadK (cs := [_, _, _]) rfl Tryd.isAgg24 Tryd.sizeOf24 (by first | exact ldv_own rfl rfl | exact ldv_pp rfl | exact ldv_old (by assumption) rfl | exact ldv_ptr (by assumption) rfl)) (trivial) ?_
              refine rPG rfl rfl rfl rfl rfl rfl rfl (op_loadK (cs := [_, _, _]) rfl Tryd.isAgg24 Tryd.sizeOf24 (by first | exact ldv_own rfl rfl | exact ldv_pp rfl | exact ldv_old (by assumption) rfl | exact ldv_ptr (by assumption) rfl)) (trivial) ?_
              refine rPG rfl rfl rfl rfl rfl rfl rfl (op_callF rfl rfl rfl Tryd.func15 rfl rfl (pcmpR_c x y _ hmx hmy)) (trivial) ?_
              refine rPG rfl rfl rfl rfl rfl rfl rfl (op_loadK (cs := [_, _, _]) rfl Tryd.isAgg24 Tryd.sizeOf24 (by first | exact ldv_own rfl rfl | exact ldv_pp rfl | exact ldv_old (by assumption) rfl | exact ldv_ptr (by assumption) rfl)) (trivial) ?_
              refine rPG rfl rfl rfl rfl rfl rfl rfl (op_loadK (cs := [_, _, _]) rfl Tryd.isAgg24 Tryd.sizeOf24 (by first | exact ldv_own rfl rfl | exact ldv_pp rfl | exact ldv_old (by assumption) rfl | exact ldv_ptr (by assumption) rfl)) (trivial) ?_
              refine rPG rfl rfl rfl rfl rfl rfl rfl (op_callF rfl rfl rfl Tryd.func15 rfl rfl (pcmpR_c y x _ hmy hmx)) (trivial) ?_
              refine rAG rfl rfl rfl rfl rfl rfl rfl (fun _ => op_neg64 rfl rfl (by omega) (by omega)) ?_
              refine rAG rfl rfl rfl rfl rfl rfl rfl (fun _ => op_neqF rfl rfl rfl (by omega)) ?_
              refine rA rfl rfl rfl rfl (fun _ => op_pickFO rfl rfl rfl) ?_
              refine rA rfl rfl rfl rfl (fun _ => op_moveO rfl rfl) ?_
              refine rPG rfl rfl rfl rfl rfl rfl rfl (op_loadK (cs := [_, _, _]) rfl Tryd.isAgg24 Tryd.sizeOf24 (by first | exact ldv_own rfl rfl | exact ldv_pp rfl | exact ldv_old (by assumption) rfl | exact ldv_ptr (by assumption) rfl)) (trivial) ?_
              refine rPG rfl rfl rfl rfl rfl rfl rfl (op_loadK (cs := [_, _, _]) rfl Tryd.isAgg24 Tryd.sizeOf24 (by first | exact ldv_own rfl rfl | exact ldv_pp rfl | exact ldv_old (by assumption) rfl | exact ldv_ptr (by assumption) rfl)) (trivial) ?_
              refine rPG rfl rfl rfl rfl rfl rfl rfl (op_callF rfl rfl rfl Tryd.func15 rfl rfl (pcmpR_c x y _ hmx hmy)) (trivial) ?_
              refine rAG rfl rfl rfl rfl rfl rfl rfl (fun _ => op_eqlD (q := x = y) rfl rfl rfl (pCmp_zero hmx hmy)) ?_
              refine rPG rfl rfl rfl rfl rfl rfl rfl (op_loadK (cs := [_, _, _]) rfl Tryd.isAgg24 Tryd.sizeOf24 (by first | exact ldv_own rfl rfl | exact ldv_pp rfl | exact ldv_old (by assumption) rfl | exact ldv_ptr (by assumption) rfl)) (trivial) ?_
              refine rPG rfl rfl rfl rfl rfl rfl rfl (op_loadK (cs := [_, _, _]) rfl Tryd.isAgg24 Tryd.sizeOf24 (by first | exact ldv_own rfl rfl | exact ldv_pp rfl | exact ldv_old (by assumption) rfl | exact ldv_ptr (by assumption) rfl)) (trivial) ?_
              refine rAG rfl rfl rfl rfl rfl rfl rfl (fun _ => op_eqSR (r' := pb (x = y)) rfl Tryd.underlying24 (by kernel_rfl) (by kernel_rfl) (.bool _ _ _ _ _ _ _ _ (by decide) rfl Tryd.underlying4 (.str _ _ _ _ _ _ _ _ (by decide) rfl Tryd.underlying9 (.int _ _ _ _ _ _ _ _ _ _ (by decide) rfl Tryd.underlying3 (.nil _)))) rfl rfl (jnum_dec x y)) ?_
              refine rAG rfl rfl rfl rfl rfl rfl rfl (fun _ => op_bneqS rfl Tryd.underlying4 rfl rfl) ?_
              refine rA rfl rfl rfl rfl (fun _ => op_pickFO rfl rfl rfl) ?_
              refine RP.nil rfl ?_
              refine AWp_condF rfl ?_
              refine AWp_skip ?_
              refine AWp_seq ?_
              refine AWp_seq ?_
              -- region 12 law.go:52
              refine AWp_regL ?_
              refine st rfl rfl rfl (op_loadK (cs := [_, _, _]) rfl Tryd.isAgg24 Tryd.sizeOf24 (by first | exact ldv_own rfl rfl | exact ldv_pp rfl | exact ldv_old (by assumption) rfl | exact ldv_ptr (by assumption) rfl)) ?_
              refine st rfl rfl rfl (op_loadK (cs := [_, _, _]) rfl Tryd.isAgg24 Tryd.sizeOf24 (by first | exact ldv_own rfl rfl | exact ldv_pp rfl | exact ldv_old (by assumption) rfl | exact ldv_ptr (by assumption) rfl)) ?_
              refine st rfl rfl rfl (op_callF rfl rfl rfl Tryd.func15 rfl rfl (pcmpR_c x y _ hmx hmy)) ?_
              refine st rfl rfl rfl (op_leq rfl rfl rfl) ?_
              refine st rfl rfl rfl (op_moveO rfl rfl) ?_
              refine AOps_split 96 rfl (fun h7 => ?_) (fun h7 => ?_)
              · rw [h7]; (try simp only [decide_eq_true_eq, decide_eq_false_iff_not, Bool.not_eq_true', Bool.not_eq_false', Int.not_lt, Int.not_le, Bool.not_true, Bool.not_false, Int.toNat_natCast, bne_iff_ne, beq_iff_eq, beq_eq_false_iff_ne, ne_eq, Decidable.not_not] at h7)
                refine stG rfl rfl rfl rfl rfl rfl (op_loadK (cs := [_, _, _]) rfl Tryd.isAgg24 Tryd.sizeOf24 (by first | exact ldv_own rfl rfl | exact ldv_pp rfl | exact ldv_old (by assumption) rfl | exact ldv_ptr (by assumption) rfl)) ?_
                refine stG rfl rfl rfl rfl rfl rfl (op_loadK (cs := [_, _, _]) rfl Tryd.isAgg24 Tryd.sizeOf24 (by first | exact ldv_own rfl rfl | exact ldv_pp rfl | exact ldv_old (by assumption) rfl | exact ldv_ptr (by assumption) rfl)) ?_
                refine stG rfl rfl rfl rfl rfl rfl (op_callF rfl rfl rfl Tryd.func15 rfl rfl (pcmpR_c y z _ hmy hmz)) ?_
                refine stG rfl rfl rfl rfl rfl rfl (op_leq rfl rfl rfl) ?_
                refine st rfl rfl rfl (op_pickTO rfl rfl rfl) ?_
                refine st rfl rfl rfl (op_moveO rfl rfl) ?_
                refine AOps_split 102 rfl (fun h8 => ?_) (fun h8 => ?_)
                · rw [h8]; (try simp only [decide_eq_true_eq, decide_eq_false_iff_not, Bool.not_eq_true', Bool.not_eq_false', Int.not_lt, Int.not_le, Bool.not_true, Bool.not_false, Int.toNat_natCast, bne_iff_ne, beq_iff_eq, beq_eq_false_iff_ne, ne_eq, Decidable.not_not] at h8)
                  refine stG rfl rfl rfl rfl rfl rfl (op_loadK (cs := [_, _, _]) rfl Tryd.isAgg24 Tryd.sizeOf24 (by first | exact ldv_own rfl rfl | exact ldv_pp rfl | exact ldv_old (by assumption) rfl | exact ldv_ptr (by assumption) rfl)) ?_
                  refine stG rfl rfl rfl rfl rfl rfl (op_loadK (cs := [_, _, _]) rfl Tryd.isAgg24 Tryd.sizeOf24 (by first | exact ldv_own rfl rfl | exact ldv_pp rfl | exact ldv_old (by assumption) rfl | exact ldv_ptr (by assumption) rfl)) ?_
                  refine stG rfl rfl rfl rfl rfl rfl (op_callF rfl rfl rfl Tryd.func15 rfl rfl (pcmpR_c x z _ hmx hmz)) ?_
                  refine stG rfl rfl rfl rfl rfl rfl (op_gtr rfl rfl rfl) ?_
                  refine st rfl rfl rfl (op_pickTO rfl rfl rfl) ?_
                  refine AOps_nil ?_
                  refine AWp_cond rfl (fun h9 => ?_) (fun h9 => ?_)
                  · (try rw [h9]); (try simp only [decide_eq_true_eq, decide_eq_false_iff_not, Bool.not_eq_true', Bool.not_eq_false', Int.not_lt, Int.not_le, Bool.not_true, Bool.not_false, Int.toNat_natCast, bne_iff_ne, beq_iff_eq, beq_eq_false_iff_ne, ne_eq, Decidable.not_not] at h9)
                    refine AWp_seq ?_
                    -- region 13 law.go:53
                    refine AWp_regL ?_
                    refine st rfl rfl rfl (op_assignO rfl rfl) ?_
                    refine AOps_nil ?_
                    refine AWp_ret ?_
                    (try simp only [blockQ, thenQ])
                    first | exact ResQ_1 rfl hcl trivial ⟨rfl, rfl⟩ | (exfalso; have := pCmp_trans hmx hmy hmz (by omega) (by omega); omega)
                  · (try rw [h9]); (try simp only [decide_eq_true_eq, decide_eq_false_iff_not, Bool.not_eq_true', Bool.not_eq_false', Int.not_lt, Int.not_le, Bool.not_true, Bool.not_false, Int.toNat_natCast, bne_iff_ne, beq_iff_eq, beq_eq_false_iff_ne, ne_eq, Decidable.not_not] at h9)
                    refine AWp_skip ?_
                    refine AWp_seq ?_
                    refine AWp_seq ?_
                    -- region 14 law.go:55
                    refine AWp_regL ?_
                    refine st rfl rfl rfl (op_moveO rfl rfl) ?_
                    refine st rfl rfl rfl (op_lss rfl rfl rfl) ?_
                    refine st rfl rfl rfl (op_moveO rfl rfl) ?_
                    refine AOps_split 110 rfl (fun h10 => ?_) (fun h10 => ?_)
                    · rw [h10]; (try simp only [decide_eq_true_eq, decide_eq_false_iff_not, Bool.not_eq_true', Bool.not_eq_false', Int.not_lt, Int.not_le, Bool.not_true, Bool.not_false, Int.toNat_natCast, bne_iff_ne, beq_iff_eq, beq_eq_false_iff_ne, ne_eq, Decidable.not_not] at h10)
                      refine stS rfl rfl rfl (.inl rfl) rfl rfl ?_
                      refine stS rfl rfl rfl (.inl rfl) rfl rfl ?_
                      refine st rfl rfl rfl (op_pickTO rfl rfl rfl) ?_
                      refine AOps_nil ?_
                      refine AWp_condT rfl ?_
                      refine AWp_seq ?_
                      -- region 15 law.go:56
                      refine AWp_regL ?_
                      refine st rfl rfl rfl (op_moveO rfl rfl) ?_
                      refine st rfl rfl rfl (op_assignO rfl rfl) ?_
                      refine AOps_nil ?_
                      refine AWp_ret ?_
                      (try simp only [blockQ, thenQ])
                      first | exact ResQ_1 rfl hcl trivial ⟨rfl, rfl⟩ | (exfalso; have := pCmp_trans hmx hmy hmz (by omega) (by omega); omega)
                    · rw [h10]; (try simp only [decide_eq_true_eq, decide_eq_false_iff_not, Bool.not_eq_true', Bool.not_eq_false', Int.not_lt, Int.not_le, Bool.not_true, Bool.not_false, Int.toNat_natCast, bne_iff_ne, beq_iff_eq, beq_eq_false_iff_ne, ne_eq, Decidable.not_not] at h10)
                      refine stG rfl rfl rfl rfl rfl rfl (op_moveO rfl rfl) ?_
                      refine stG rfl rfl rfl rfl rfl rfl (op_gtr rfl rfl rfl) ?_
                      refine st rfl rfl rfl (op_pickFO rfl rfl rfl) ?_
                      refine AOps_nil ?_
                      refine AWp_cond rfl (fun h11 => ?_) (fun h11 => ?_)
                      · (try rw [h11]); (try simp only [decide_eq_true_eq, decide_eq_false_iff_not, Bool.not_eq_true', Bool.not_eq_false', Int.not_lt, Int.not_le, Bool.not_true, Bool.not_false, Int.toNat_natCast, bne_iff_ne, beq_iff_eq, beq_eq_false_iff_ne, ne_eq, Decidable.not_not] at h11)
                        refine AWp_seq ?_
                        -- region 15 law.go:56
                        refine AWp_regL ?_
                        refine st rfl rfl rfl (op_moveO rfl rfl) ?_
                        refine st rfl rfl rfl (op_assignO rfl rfl) ?_
                        refine AOps_nil ?_
                        refine AWp_ret ?_
                        (try simp only [blockQ, thenQ])
                        first | exact ResQ_1 rfl hcl trivial ⟨rfl, rfl⟩ | (exfalso; have := pCmp_trans hmx hmy hmz (by omega) (by omega); omega)
                      · (try rw [h11]); (try simp only [decide_eq_true_eq, decide_eq_false_iff_not, Bool.not_eq_true', Bool.not_eq_false', Int.not_lt, Int.not_le, Bool.not_true, Bool.not_false, Int.toNat_natCast, bne_iff_ne, beq_iff_eq, beq_eq_false_iff_ne, ne_eq, Decidable.not_not] at h11)
                        refine AWp_skip ?_
                        refine AWp_seq ?_
                        -- region 16 law.go:58
                        refine AWp_regL ?_
                        refine st rfl rfl rfl (op_moveO rfl rfl) ?_
                        refine st rfl rfl rfl (op_moveO rfl rfl) ?_
                        refine stG rfl rfl rfl rfl rfl rfl (op_moveO rfl rfl) ?_
                        refine stG rfl rfl rfl rfl rfl rfl (op_callF rfl rfl rfl Tryd.func9 rfl rfl (pof_c k _ (by omega) (by omega))) ?_
                        refine stG rfl rfl rfl rfl rfl rfl (op_moveO rfl rfl) ?_
                        refine stG rfl rfl rfl rfl rfl rfl (op_add64 rfl rfl rfl (by omega) (by omega)) ?_
                        refine stG rfl rfl rfl rfl rfl rfl (op_callF rfl rfl rfl Tryd.func9 rfl rfl (pof_c (k + 1) _ (by omega) (by omega))) ?_
                        refine stG rfl rfl rfl rfl rfl rfl (op_callF rfl rfl rfl Tryd.func15 rfl rfl (pcmpR_c (pNum (Lib.itoa k)).1 (pNum (Lib.itoa (k + 1))).1 _ (pNum_may _).1 (pNum_may _).1)) ?_
                        refine stG rfl rfl rfl rfl rfl rfl (op_eqlT rfl rfl rfl (of_next (by omega) (by omega))) ?_
                        refine st rfl rfl rfl (op_pickTO rfl rfl rfl) ?_
                        refine st rfl rfl rfl (op_moveO rfl rfl) ?_
                        refine stG rfl rfl rfl rfl rfl rfl (op_moveO rfl rfl) ?_
                        refine stG rfl rfl rfl rfl rfl rfl (op_callF rfl rfl rfl Tryd.func9 rfl rfl (pof_c k _ (by omega) (by omega))) ?_
                        refine stG rfl rfl rfl rfl rfl rfl (op_callF rfl rfl rfl Tryd.func13 rfl rfl (pwholeT_c (pNum (Lib.itoa k)).1 _ (of_whole (by omega) (by omega)))) ?_
                        refine st rfl rfl rfl (op_pickTO rfl rfl rfl) ?_
                        refine st rfl rfl rfl (op_assignO rfl rfl) ?_
                        refine AOps_nil ?_
                        refine AWp_ret ?_
                        (try simp only [blockQ, thenQ])
                        first | exact ResQ_1 rfl hcl trivial ⟨rfl, rfl⟩ | (exfalso; have := pCmp_trans hmx hmy hmz (by omega) (by omega); omega)
                · rw [h8]; (try simp only [decide_eq_true_eq, decide_eq_false_iff_not, Bool.not_eq_true', Bool.not_eq_false', Int.not_lt, Int.not_le, Bool.not_true, Bool.not_false, Int.toNat_natCast, bne_iff_ne, beq_iff_eq, beq_eq_false_iff_ne, ne_eq, Decidable.not_not] at h8)
                  refine stS rfl rfl rfl (.inl rfl) rfl rfl ?_
                  refine stS rfl rfl rfl (.inl rfl) rfl rfl ?_
                  refine stS rfl rfl rfl (.inl rfl) rfl rfl ?_
                  refine stS rfl rfl rfl (.inl rfl) rfl rfl ?_
                  refine st rfl rfl rfl (op_pickFO rfl rfl rfl) ?_
                  refine AOps_nil ?_
                  refine AWp_condF rfl ?_
                  refine AWp_skip ?_
                  refine AWp_seq ?_
                  refine AWp_seq ?_
                  -- region 14 law.go:55
                  refine AWp_regL ?_
                  refine st rfl rfl rfl (op_moveO rfl rfl) ?_
                  refine st rfl rfl rfl (op_lss rfl rfl rfl) ?_
                  refine st rfl rfl rfl (op_moveO rfl rfl) ?_
                  refine AOps_split 110 rfl (fun h12 => ?_) (fun h12 => ?_)
                  · rw [h12]; (try simp only [decide_eq_true_eq, decide_eq_false_iff_not, Bool.not_eq_true', Bool.not_eq_false', Int.not_lt, Int.not_le, Bool.not_true, Bool.not_false, Int.toNat_natCast, bne_iff_ne, beq_iff_eq, beq_eq_false_iff_ne, ne_eq, Decidable.not_not] at h12)
                    refine stS rfl rfl rfl (.inl rfl) rfl rfl ?_
                    refine stS rfl rfl rfl (.inl rfl) rfl rfl ?_
                    refine st rfl rfl rfl (op_pickTO rfl rfl rfl) ?_
                    refine AOps_nil ?_
                    refine AWp_condT rfl ?_
                    refine AWp_seq ?_
                    -- region 15 law.go:56
                    refine AWp_regL ?_
                    refine st rfl rfl rfl (op_moveO rfl rfl) ?_
                    refine st rfl rfl rfl (op_assignO rfl rfl) ?_
                    refine AOps_nil ?_
                    refine AWp_ret ?_
                    (try simp only [blockQ, thenQ])
                    first | exact ResQ_1 rfl hcl trivial ⟨rfl, rfl⟩ | (exfalso; have := pCmp_trans hmx hmy hmz (by omega) (by omega); omega)
                  · rw [h12]; (try simp only [decide_eq_true_eq, decide_eq_false_iff_not, Bool.not_eq_true', Bool.not_eq_false', Int.not_lt, Int.not_le, Bool.not_true, Bool.not_false, Int.toNat_natCast, bne_iff_ne, beq_iff_eq, beq_eq_false_iff_ne, ne_eq, Decidable.not_not] at h12)
                    refine stG rfl rfl rfl rfl rfl rfl (op_moveO rfl rfl) ?_
                    refine stG rfl rfl rfl rfl rfl rfl (op_gtr rfl rfl rfl) ?_
                    refine st rfl rfl rfl (op_pickFO rfl rfl rfl) ?_
                    refine AOps_nil ?_
                    refine AWp_cond rfl (fun h13 => ?_) (fun h13 => ?_)
                    · (try rw [h13]); (try simp only [decide_eq_true_eq, decide_eq_false_iff_not, Bool.not_eq_true', Bool.not_eq_false', Int.not_lt, Int.not_le, Bool.not_true, Bool.not_false, Int.toNat_natCast, bne_iff_ne, beq_iff_eq, beq_eq_false_iff_ne, ne_eq, Decidable.not_not] at h13)
                      refine AWp_seq ?_
                      -- region 15 law.go:56
                      refine AWp_regL ?_
                      refine st rfl rfl rfl (op_moveO rfl rfl) ?_
                      refine st rfl rfl rfl (op_assignO rfl rfl) ?_
                      refine AOps_nil ?_
                      refine AWp_ret ?_
                      (try simp only [blockQ, thenQ])
                      first | exact ResQ_1 rfl hcl trivial ⟨rfl, rfl⟩ | (exfalso; have := pCmp_trans hmx hmy hmz (by omega) (by omega); omega)
                    · (try rw [h13]); (try simp only [decide_eq_true_eq, decide_eq_false_iff_not, Bool.not_eq_true', Bool.not_eq_false', Int.not_lt, Int.not_le, Bool.not_true, Bool.not_false, Int.toNat_natCast, bne_iff_ne, beq_iff_eq, beq_eq_false_iff_ne, ne_eq, Decidable.not_not] at h13)
                      refine AWp_skip ?_
                      refine AWp_seq ?_
                      -- region 16 law.go:58
                      refine AWp_regL ?_
                      refine st rfl rfl rfl (op_moveO rfl rfl) ?_
                      refine st rfl rfl rfl (op_moveO rfl rfl) ?_
                      refine stG rfl rfl rfl rfl rfl rfl (op_moveO rfl rfl) ?_
                      refine stG rfl rfl rfl rfl rfl rfl (op_callF rfl rfl rfl Tryd.func9 rfl rfl (pof_c k _ (by omega) (by omega))) ?_
                      refine stG rfl rfl rfl rfl rfl rfl (op_moveO rfl rfl) ?_
                      refine stG rfl rfl rfl rfl rfl rfl (op_add64 rfl rfl rfl (by omega) (by omega)) ?_
                      refine stG rfl rfl rfl rfl rfl rfl (op_callF rfl rfl rfl Tryd.func9 rfl rfl (pof_c (k + 1) _ (by omega) (by omega))) ?_
                      refine stG rfl rfl rfl rfl rfl rfl (op_callF rfl rfl rfl Tryd.func15 rfl rfl (pcmpR_c (pNum (Lib.itoa k)).1 (pNum (Lib.itoa (k + 1))).1 _ (pNum_may _).1 (pNum_may _).1)) ?_
                      refine stG rfl rfl rfl rfl rfl rfl (op_eqlT rfl rfl rfl (of_next (by omega) (by omega))) ?_
                      refine st rfl rfl rfl (op_pickTO rfl rfl rfl) ?_
                      refine st rfl rfl rfl (op_moveO rfl rfl) ?_
                      refine stG rfl rfl rfl rfl rfl rfl (op_moveO rfl rfl) ?_
                      refine stG rfl rfl rfl rfl rfl rfl (op_callF rfl rfl rfl Tryd.func9 rfl rfl (pof_c k _ (by omega) (by omega))) ?_
                      refine stG rfl rfl rfl rfl rfl rfl (op_callF rfl rfl rfl Tryd.func13 rfl rfl (pwholeT_c (pNum (Lib.itoa k)).1 _ (of_whole (by omega) (by omega)))) ?_
                      refine st rfl rfl rfl (op_pickTO rfl rfl rfl) ?_
                      refine st rfl rfl rfl (op_assignO rfl rfl) ?_
                      refine AOps_nil ?_
                      refine AWp_ret ?_
                      (try simp only [blockQ, thenQ])
                      first | exact ResQ_1 rfl hcl trivial ⟨rfl, rfl⟩ | (exfalso; have := pCmp_trans hmx hmy hmz (by omega) (by omega); omega)
              · rw [h7]; (try simp only [decide_eq_true_eq, decide_eq_false_iff_not, Bool.not_eq_true', Bool.not_eq_false', Int.not_lt, Int.not_le, Bool.not_true, Bool.not_false, Int.toNat_natCast, bne_iff_ne, beq_iff_eq, beq_eq_false_iff_ne, ne_eq, Decidable.not_not] at h7)
                refine stS rfl rfl rfl (.inl rfl) rfl rfl ?_
                refine stS rfl rfl rfl (.inl rfl) rfl rfl ?_
                refine stS rfl rfl rfl (.inl rfl) rfl rfl ?_
                refine stS rfl rfl rfl (.inl rfl) rfl rfl ?_
                refine st rfl rfl rfl (op_pickFO rfl rfl rfl) ?_
                refine st rfl rfl rfl (op_moveO rfl rfl) ?_
                refine stS rfl rfl rfl (.inl rfl) rfl rfl ?_
                refine stS rfl rfl rfl (.inl rfl) rfl rfl ?_
                refine stS rfl rfl rfl (.inl rfl) rfl rfl ?_
                refine stS rfl rfl rfl (.inl rfl) rfl rfl ?_
                refine st rfl rfl rfl (op_pickFO rfl rfl rfl) ?_
                refine AOps_nil ?_
                refine AWp_condF rfl ?_
                refine AWp_skip ?_
                refine AWp_seq ?_
                refine AWp_seq ?_
                -- region 14 law.go:55
                refine AWp_regL ?_
                refine st rfl rfl rfl (op_moveO rfl rfl) ?_
                refine st rfl rfl rfl (op_lss rfl rfl rfl) ?_
                refine st rfl rfl rfl (op_moveO rfl rfl) ?_
                refine AOps_split 110 rfl (fun h14 => ?_) (fun h14 => ?_)
                · rw [h14]; (try simp only [decide_eq_true_eq, decide_eq_false_iff_not, Bool.not_eq_true', Bool.not_eq_false', Int.not_lt, Int.not_le, Bool.not_true, Bool.not_false, Int.toNat_natCast, bne_iff_ne, beq_iff_eq, beq_eq_false_iff_ne, ne_eq, Decidable.not_not] at h14)
                  refine stS rfl rfl rfl (.inl rfl) rfl rfl ?_
                  refine stS rfl rfl rfl (.inl rfl) rfl rfl ?_
                  refine st rfl rfl rfl (op_pickTO rfl rfl rfl) ?_
                  refine AOps_nil ?_
                  refine AWp_condT rfl ?_
                  refine AWp_seq ?_
                  -- region 15 law.go:56
                  refine AWp_regL ?_
                  refine st rfl rfl rfl (op_moveO rfl rfl) ?_
                  refine st rfl rfl rfl (op_assignO rfl rfl) ?_
                  refine AOps_nil ?_
                  refine AWp_ret ?_
                  (try simp only [blockQ, thenQ])
                  first | exact ResQ_1 rfl hcl trivial ⟨rfl, rfl⟩ | (exfalso; have := pCmp_trans hmx hmy hmz (by omega) (by omega); omega)
                · rw [h14]; (try simp only [decide_eq_true_eq, decide_eq_false_iff_not, Bool.not_eq_true', Bool.not_eq_false', Int.not_lt, Int.not_le, Bool.not_true, Bool.not_false, Int.toNat_natCast, bne_iff_ne, beq_iff_eq, beq_eq_false_iff_ne, ne_eq, Decidable.not_not] at h14)
                  refine stG rfl rfl rfl rfl rfl rfl (op_moveO rfl rfl) ?_
                  refine stG rfl rfl rfl rfl rfl rfl (op_gtr rfl rfl rfl) ?_
                  refine st rfl rfl rfl (op_pickFO rfl rfl rfl) ?_
                  refine AOps_nil ?_
                  refine AWp_cond rfl (fun h15 => ?_) (fun h15 => ?_)
                  · (try rw [h15]); (try simp only [decide_eq_true_eq, decide_eq_false_iff_not, Bool.not_eq_true', Bool.not_eq_false', Int.not_lt, Int.not_le, Bool.not_true, Bool.not_false, Int.toNat_natCast, bne_iff_ne, beq_iff_eq, beq_eq_false_iff_ne, ne_eq, Decidable.not_not] at h15)
                    refine AWp_seq ?_
                    -- region 15 law.go:56
                    refine AWp_regL ?_
                    refine st rfl rfl rfl (op_moveO rfl rfl) ?_
                    refine st rfl rfl rfl (op_assignO rfl rfl) ?_
                    refine AOps_nil ?_
                    refine AWp_ret ?_
                    (try simp only [blockQ, thenQ])
                    first | exact ResQ_1 rfl hcl trivial ⟨rfl, rfl⟩ | (exfalso; have := pCmp_trans hmx hmy hmz (by omega) (by omega); omega)
                  · (try rw [h15]); (try simp only [decide_eq_true_eq, decide_eq_false_iff_not, Bool.not_eq_true', Bool.not_eq_false', Int.not_lt, Int.not_le, Bool.not_true, Bool.not_false, Int.toNat_natCast, bne_iff_ne, beq_iff_eq, beq_eq_false_iff_ne, ne_eq, Decidable.not_not] at h15)
                    refine AWp_skip ?_
                    refine AWp_seq ?_
                    -- region 16 law.go:58
                    refine AWp_regL ?_
                    refine st rfl rfl rfl (op_moveO rfl rfl) ?_
                    refine st rfl rfl rfl (op_moveO rfl rfl) ?_
                    refine stG rfl rfl rfl rfl rfl rfl (op_moveO rfl rfl) ?_
                    refine stG rfl rfl rfl rfl rfl rfl (op_callF rfl rfl rfl Tryd.func9 rfl rfl (pof_c k _ (by omega) (by omega))) ?_
                    refine stG rfl rfl rfl rfl rfl rfl (op_moveO rfl rfl) ?_
                    refine stG rfl rfl rfl rfl rfl rfl (op_add64 rfl rfl rfl (by omega) (by omega)) ?_
                    refine stG rfl rfl rfl rfl rfl rfl (op_callF rfl rfl rfl Tryd.func9 rfl rfl (pof_c (k + 1) _ (by omega) (by omega))) ?_
                    refine stG rfl rfl rfl rfl rfl rfl (op_callF rfl rfl rfl Tryd.func15 rfl rfl (pcmpR_c (pNum (Lib.itoa k)).1 (pNum (Lib.itoa (k + 1))).1 _ (pNum_may _).1 (pNum_may _).1)) ?_
                    refine stG rfl rfl rfl rfl rfl rfl (op_eqlT rfl rfl rfl (of_next (by omega) (by omega))) ?_
                    refine st rfl rfl rfl (op_pickTO rfl rfl rfl) ?_
                    refine st rfl rfl rfl (op_moveO rfl rfl) ?_
                    refine stG rfl rfl rfl rfl rfl rfl (op_moveO rfl rfl) ?_
                    refine stG rfl rfl rfl rfl rfl rfl (op_callF rfl rfl rfl Tryd.func9 rfl rfl (pof_c k _ (by omega) (by omega))) ?_
                    refine stG rfl rfl rfl rfl rfl rfl (op_callF rfl rfl rfl Tryd.func13 rfl rfl (pwholeT_c (pNum (Lib.itoa k)).1 _ (of_whole (by omega) (by omega)))) ?_
                    refine st rfl rfl rfl (op_pickTO rfl rfl rfl) ?_
                    refine st rfl rfl rfl (op_assignO rfl rfl) ?_
                    refine AOps_nil ?_
                    refine AWp_ret ?_
                    (try simp only [blockQ, thenQ])
                    first | exact ResQ_1 rfl hcl trivial ⟨rfl, rfl⟩ | (exfalso; have := pCmp_trans hmx hmy hmz (by omega) (by omega); omega)

end Lg
set_option maxRecDepth 100000
set_option maxHeartbeats 4000000
namespace Go.Proofs.YtibcllgeeokjmaaDoor
open Go Go.ChangeShapes Go.WideShapes Go.ChangeAt Go.RowKit Go.Lib
open Go.ChangeMaps (open_string shut_string)
theorem own : ownKnob Tryd.prog.godebug = none := by kernel_rfl
noncomputable def laidWorld (os : Os) : World := World.laidAll Tryd.prog os Rows.numTellsRow.laid
theorem plainLaid : (Rows.numTellsRow.laid.all fun x => x.2.handleName?.isNone) = true := by kernel_rfl
theorem laid_metH (os : Os) (args : Array Value) : laidMetH Tryd.prog Rows.numTellsRow.laid ((laidWorld os).forCall (fun _ _ => 0) ⟨#[], args, []⟩).memory := by
  rw [MakeChecks.laidMetH_plain _ _ _ plainLaid]; exact laidMet_laidAll _ (by kernel_rfl) (by kernel_rfl)
def G10 : Nat := 4
theorem g10 : Tryd.prog.globalNamed "internal/strconv.uint64pow10" = some G10 := by kernel_rfl
theorem tabs_of {W : World} (h : laidMetH Tryd.prog Rows.numTellsRow.laid W) : Lib.TabIs Tryd.prog W "internal/strconv.uint64pow10" .u64 Lib.pow10Tab := by
  rw [MakeChecks.laidMetH_plain _ _ _ plainLaid] at h
  have e : (Rows.laid_internal_strconv_uint64pow10 : DataW Unit) = Lib.tabData .u64 Lib.pow10Tab := by kernel_rfl
  have h3 : laidMet Tryd.prog (("internal/strconv.uint64pow10", Lib.tabData .u64 Lib.pow10Tab) :: Rows.numTellsRow.laid.drop 3) W := by
    rw [← e]; exact laidMet.tail (laidMet.tail h)
  exact Lib.tabIs_of_head g10 (by kernel_rfl) (t := 100) (n := 20) (e := 80) (by kernel_rfl) (by kernel_rfl) (by kernel_rfl) (by kernel_rfl) h3
/-- The same table in a world that bears the same block. -/
theorem tabs_heap {W w : World} (h : Lib.TabIs Tryd.prog W "internal/strconv.uint64pow10" .u64 Lib.pow10Tab) (h0 : w.heap[G10]? = W.heap[G10]?) : Lib.TabIs Tryd.prog w "internal/strconv.uint64pow10" .u64 Lib.pow10Tab := by
  unfold Lib.TabIs World.var? at *
  rw [g10] at *
  simp only [Option.bind_some] at *
  rw [h0]; exact h
theorem heap_some {W : World} (h : Lib.TabIs Tryd.prog W "internal/strconv.uint64pow10" .u64 Lib.pow10Tab) : G10 < W.heap.size := by
  unfold Lib.TabIs World.var? at h
  rw [g10] at h
  simp only [Option.bind_some] at h
  rcases Nat.lt_or_ge G10 W.heap.size with h1 | h1
  · exact h1
  · rw [Array.getElem?_eq_none h1] at h; cases h
/-- From the logic to the model: a call of plain data in a world where the table lies. -/
theorem calls_of {f : FuncId} {args : List Lg.AV} {cargs : List Value} {W : World} (hT : Lib.TabIs Tryd.prog W "internal/strconv.uint64pow10" .u64 Lib.pow10Tab) (ha : ∀ [Lg.GLay] (s : Lg.CS), Lg.PW s args cargs)
    (h : ∀ [Lg.GLay] [Lg.S10], Lg.ACalls Tryd.prog f args [] (Lg.Ret (.bool true) [])) : Calls Tryd.prog f cargs.toArray W fun e W' => e = .returned (.bool true) ∧ Go.RowKit.Below W.heap.size W W' := by
  letI : Lg.GLay := ⟨fun b => if b = G10 then W.heap[b]? else none⟩
  haveI : Lg.S10 := ⟨fun w hw => by
    have hb := heap_some hT
    refine tabs_heap hT ?_
    rw [hw G10 (W.heap[G10]) (by show (if G10 = G10 then W.heap[G10]? else none) = _; rw [if_pos rfl]; exact Array.getElem?_eq_getElem hb)]; exact (Array.getElem?_eq_getElem hb).symm⟩
  let s0 : Lg.CS := { σ := [], μ := fun _ => ⟨0, 0, 0⟩, ok := fun b => b < W.heap.size, w := W }
  have g0 : Lg.Good s0 := ⟨fun b hb => hb, fun p o ho => by simp [s0] at ho, fun p q _ hp _ => by
      have : p < s0.σ.length := Lg.CS.live_lt hp
      simp [s0] at this, fun b o ho => by
      change (if b = G10 then W.heap[b]? else none) = some o at ho
      split at ho
      · exact ⟨(Array.getElem?_eq_some_iff.1 ho).1, ho⟩
      · cases ho⟩
  refine (h s0 cargs rfl g0 (ha s0)).mono fun e W' hc => ?_
  obtain ⟨s', rfl, g', x', hr⟩ := hc
  have hbel : Go.RowKit.Below W.heap.size W s'.w := ⟨x'.os, x'.tape, x'.output, x'.size, fun k hk => x'.frame k hk (fun p hp => by
    have : p < s0.σ.length := Lg.CS.live_lt hp
    simp [s0] at this)⟩
  cases e with
  | returned cv =>
    obtain ⟨v, hv, he, _⟩ := hr
    injection he with he
    subst he
    rw [hv.inv_bool]
    exact ⟨rfl, hbel⟩
  | outgrown => exact hr.elim
  | panicked ch =>
    cases ch with
    | nil => exact hr.elim
    | cons en r =>
      cases r with
      | nil => obtain ⟨_, v, _, he, _⟩ := hr; cases he
      | cons => exact hr.elim
end Go.Proofs.YtibcllgeeokjmaaDoor
set_option maxRecDepth 100000
set_option maxHeartbeats 4000000
namespace Go.Proofs.YtibcllgeeokjmaaDoor
open Go Go.ChangeShapes Go.WideShapes Go.ChangeAt Go.RowKit Go.Lib
open Go.ChangeMaps (open_string shut_string)
theorem numBack_lifted (os : Os) (started : os.Started) (H : Type) (enc : TypeId × Value → H) :
    ReturnsInHanded {} Tryd.checked os 4 .any (fun w args => (Rows.numBackSpec.pre enc Tryd.prog Tryd.f4 [] false w args ∧ laidMetH Tryd.prog Rows.numBackRow.laid w) ∧ sizedMet enc Tryd.prog Tryd.f4 (OpenSpec.ofChange Rows.numBackSpec) false w args)
      (Rows.numBackSpec.post enc Tryd.prog Tryd.f4 false true false false) := by
  refine returnsInHanded_of_change_and (C := Tryd.checked) (X := fun w _ => laidMetH Tryd.prog Rows.numBackRow.laid w) (fun _ _ _ hh h => h.of_heap hh) own started (by kernel_rfl) Tryd.func4
    (ChangeSpec.witness_shaped (enc := enc) (C := Tryd.checked) (os := os) (X := fun w _ => laidMetH Tryd.prog Rows.numBackRow.laid w) false (laidWorld os) #[.string ⟨#[]⟩, .string ⟨#[]⟩, .string ⟨#[]⟩, .int .i64 0] 8 (World.laidAll_os _ _ _)
      (World.shaped_of_ZipB (by kernel_rfl) (by kernel_rfl)) (by kernel_rfl) (by kernel_rfl) (by kernel_rfl) (laid_metH os _)) ?_
  intro W base args ds gs before hval0 hW _ _ hL _
  have hval : ∀ (j : Nat) t v, Tryd.f4.params[j]? = some t → args[j]? = some v → Value.okWide Tryd.prog W .any base t v := hval0
  have hW' := hW
  obtain ⟨p, q, hA0, hV, rfl, hfz, hnd⟩ := hW
  have hA : DataW.TrodAll enc Tryd.prog W 0 (fun _ => true) true Tryd.f4.params.toList args.toList ds p := hA0
  rw [Tryd.params4] at hA hval
  obtain ⟨v0, vs0, d0, ds0, p0, q0, hargs, rfl, rfl, h0, r0⟩ := trodAll_cons hA
  obtain ⟨v1, vs1, d1, ds1, p1, q1, rfl, rfl, rfl, h1, r1⟩ := trodAll_cons r0
  obtain ⟨v2, vs2, d2, ds2, p2, q2, rfl, rfl, rfl, h2, r2⟩ := trodAll_cons r1
  obtain ⟨v3, vs3, d3, ds3, p3, q3, rfl, rfl, rfl, h3, r3⟩ := trodAll_cons r2
  obtain ⟨rfl, rfl, rfl⟩ := trodAll_nil r3
  obtain rfl : args = #[v0, v1, v2, v3] := by cases args; simp_all
  obtain ⟨rfl, rfl⟩ := trodVars_none hV
  obtain ⟨x0, rfl, rfl, rfl, w0⟩ := open_string Tryd.underlying9 (hval 0 9 v0 rfl rfl) h0
  obtain ⟨x1, rfl, rfl, rfl, w1⟩ := open_string Tryd.underlying9 (hval 1 9 v1 rfl rfl) h1
  obtain ⟨x2, rfl, rfl, rfl, w2⟩ := open_string Tryd.underlying9 (hval 2 9 v2 rfl rfl) h2
  obtain ⟨x3, rfl, rfl, rfl, w3⟩ := open_int Tryd.underlying3 (hval 3 3 v3 rfl rfl) h3
  clear hA0 hval0
  simp only [List.append_nil] at hW'
  have hcall := calls_of (f := 4) (args := [.str x0, .str x1, .str x2, .int .i64 x3]) (cargs := [.string x0, .string x1, .string x2, .int .i64 x3]) (tabs_of hL)
    (fun st => (.cons (.str _) (.cons (.str _) (.cons (.str _) (.cons (.int _ _) .nil)))))
    (Lg.numBack_c x0 x1 x2 x3 [])
  refine hcall.mono fun e W' ⟨he, hg⟩ => ?_
  subst he
  refine ⟨_, rfl, _, _, _, [], [], [], hW', trodAll_mk1 (shut_bool Tryd.underlying4 _), ?_, rfl, hg.frame _, fun h => by cases h⟩
  exact (trodAll_cons_mk (shut_string Tryd.underlying9 w0) (trodAll_cons_mk (shut_string Tryd.underlying9 w1) (trodAll_cons_mk (shut_string Tryd.underlying9 w2) (trodAll_cons_mk (shut_int Tryd.underlying3 w3) trodAll_mk0))))

theorem numBack_holds : Rows.NumBackSaid :=
  OpenClaim.holds_of_wide 4 Tryd.f4 rfl rfl rfl rfl rfl rfl rfl ⟨rfl, rfl, rfl, rfl, rfl⟩ rfl rfl rfl rfl rfl (by kernel_rfl) Tryd.func4 (by kernel_rfl)
    (of_decide_eq_true (by kernel_rfl)) (by unfold Func.isWrapper; first | (rw [if_pos (by decide +kernel)]; kernel_rfl) | (rw [if_neg (by decide +kernel)]; exact ⟨rfl, rfl⟩))
    (fun os started H enc _ => numBack_lifted os started H enc)
end Go.Proofs.YtibcllgeeokjmaaDoor
