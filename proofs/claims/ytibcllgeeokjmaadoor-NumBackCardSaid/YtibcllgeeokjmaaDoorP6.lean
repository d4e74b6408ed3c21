/- A part of the proof of NumBack: what is shown is parsed; numbers are ordered; a count is as it counts: N5 Ln8 N6 Ln9 Sh2 N7 N8 Lg28 Lg29 N9. -/
import Derived.Test.YtibcllgeeokjmaaDoorP5
import Derived.Test.YtibcllgeeokjmaaDoorP3
import Derived.Test.YtibcllgeeokjmaaDoorProg
import Derived.Lib.Atoi
import Derived.Shelf.Strconv.Atoi
import Derived.Shelf.Strconv.Itoa3
set_option linter.unusedVariables false
set_option linter.unusedSimpArgs false
set_option linter.unusedSectionVars false
set_option maxRecDepth 20000
set_option maxHeartbeats 4000000
namespace Lg
open Go Go.Proofs Go.RowKit
variable [GLay] 


theorem ritoaP (m : Nat) : ∀ (n : Int) (σ : List AO), 0 ≤ n → n < m → n ≤ 9223372036854775807 → ACalls Tryd.prog 25 [.int .i64 n] σ (Ret (.str (itoaB n)) σ) := by
  induction m with
  | zero => intro n σ h1 h2 h3; omega
  | succ m ih =>
  intro n σ hn1 hn2 hn3
  refine ACalls_body Tryd.func25 rfl Tryd.ntmps25 (res1 Tryd.results25) (Nat.le_of_ble_eq_true rfl) (fun hcl hal => ?_)
  have h1s : ∀ x, (ByteArray.mk #[x]).size = 1 := fun x => rfl
  have hsz := itoa_size (n := n / 10) (by omega) (by omega)
  have hsz2 := itoa_size (n := -n) (by omega) (by omega)
  have hs3 := h1s (u8b (48 + n % 10))
  have hs4 := h1s 45
  refine AWp_seq ?_
  -- region 0 ref.go:51
  refine AWp_regL ?_
  refine st rfl rfl rfl (op_assignO rfl rfl) ?_
  refine AOps_nil ?_
  refine AWp_seq ?_
  refine AWp_seq ?_
  -- region 1 ref.go:52
  refine AWp_regL ?_
  refine st rfl rfl rfl (op_moveO rfl rfl) ?_
  refine st rfl rfl rfl (op_lss rfl rfl rfl) ?_
  refine AOps_nil ?_
  refine AWp_cond rfl (fun h1 => ?_) (fun h1 => ?_)
  · (try rw [h1]); (try simp only [decide_eq_true_eq, decide_eq_false_iff_not, Bool.not_eq_true', Bool.not_eq_false', Int.not_lt, Int.not_le, Bool.not_true, Bool.not_false, Int.toNat_natCast, bne_iff_ne, beq_iff_eq, beq_eq_false_iff_ne, ne_eq, Decidable.not_not] at h1)
    exfalso; omega
  · (try rw [h1]); (try simp only [decide_eq_true_eq, decide_eq_false_iff_not, Bool.not_eq_true', Bool.not_eq_false', Int.not_lt, Int.not_le, Bool.not_true, Bool.not_false, Int.toNat_natCast, bne_iff_ne, beq_iff_eq, beq_eq_false_iff_ne, ne_eq, Decidable.not_not] at h1)
    refine AWp_skip ?_
    refine AWp_seq ?_
    refine AWp_seq ?_
    -- region 3 ref.go:55
    refine AWp_regL ?_
    refine st rfl rfl rfl (op_moveO rfl rfl) ?_
    refine st rfl rfl rfl (op_lss rfl rfl rfl) ?_
    refine AOps_nil ?_
    refine AWp_cond rfl (fun h2 => ?_) (fun h2 => ?_)
    · (try rw [h2]); (try simp only [decide_eq_true_eq, decide_eq_false_iff_not, Bool.not_eq_true', Bool.not_eq_false', Int.not_lt, Int.not_le, Bool.not_true, Bool.not_false, Int.toNat_natCast, bne_iff_ne, beq_iff_eq, beq_eq_false_iff_ne, ne_eq, Decidable.not_not] at h2)
      refine AWp_seq ?_
      -- region 4 ref.go:56
      refine AWp_regL ?_
      refine st rfl rfl rfl (op_moveO rfl rfl) ?_
      refine st rfl rfl rfl (op_add64 rfl rfl rfl (by omega) (by omega)) ?_
      refine st rfl rfl rfl (op_convIn rfl (by rw [Tryd.underlying3]; rfl) Tryd.underlying5 rfl (by first | rfl | exact wrap64_in (by omega) (by omega) | exact wrapu8_in (by omega) (by omega) | (simp only [IntKind.wrap]; omega))) ?_
      refine st rfl rfl rfl (op_buildSlice [[_]] rfl Tryd.underlying45 Tryd.sizeOf5 Tryd.zeroValue5 rfl (by decide) (by decide) rfl rfl rfl rfl rfl) ?_
      refine st rfl rfl rfl (op_bytesStr (b := _) (m := 1) rfl Tryd.underlying45 Tryd.underlying5 Tryd.underlying9 (bs1 ⟨by omega, by omega⟩) rfl rfl) ?_
      refine st rfl rfl rfl (op_assignO rfl rfl) ?_
      refine AOps_nil ?_
      refine AWp_ret ?_
      (try simp only [blockQ, thenQ])
      rw [itoa_small (by omega) h2]
      exact ResQ_10 rfl hcl trivial (Ret_of rfl)
    · (try rw [h2]); (try simp only [decide_eq_true_eq, decide_eq_false_iff_not, Bool.not_eq_true', Bool.not_eq_false', Int.not_lt, Int.not_le, Bool.not_true, Bool.not_false, Int.toNat_natCast, bne_iff_ne, beq_iff_eq, beq_eq_false_iff_ne, ne_eq, Decidable.not_not] at h2)
      refine AWp_skip ?_
      refine AWp_seq ?_
      -- region 5 ref.go:58 DRAWN
      refine AWp_drawL #[0, 1, 3, 0, 8, 24, 56, 120, 248, 511, 1023] Tryd.mixed (by decide +kernel) (by decide +kernel) ?_
      refine rA rfl rfl rfl rfl (fun _ => op_moveO rfl rfl) ?_
      refine rA rfl rfl rfl rfl (fun _ => op_quo64 rfl rfl rfl (by omega) (by omega) (by omega)) ?_
      refine rP rfl rfl rfl rfl (op_callF rfl rfl rfl Tryd.func25 rfl rfl (ih (n / 10) _ (by omega) (by omega) (by omega))) (trivial) ?_
      refine rA rfl rfl rfl rfl (fun _ => op_moveO rfl rfl) ?_
      refine rA rfl rfl rfl rfl (fun _ => op_rem64 rfl rfl rfl (by omega) (by omega)) ?_
      refine rA rfl rfl rfl rfl (fun _ => op_add64 rfl rfl rfl (by omega) (by omega)) ?_
      refine rA rfl rfl rfl rfl (fun _ => op_convIn rfl (by rw [Tryd.underlying3]; rfl) Tryd.underlying5 rfl (by first | rfl | exact wrap64_in (by omega) (by omega) | exact wrapu8_in (by omega) (by omega) | (simp only [IntKind.wrap]; omega))) ?_
      refine rA rfl rfl rfl rfl (fun _ => op_buildSlice [[_]] rfl Tryd.underlying45 Tryd.sizeOf5 Tryd.zeroValue5 rfl (by decide) (by decide) rfl rfl rfl rfl rfl) ?_
      refine rA rfl rfl rfl rfl (fun _ => op_bytesStr (b := _) (m := 1) rfl Tryd.underlying45 Tryd.underlying5 Tryd.underlying9 (bs1 ⟨by omega, by omega⟩) rfl rfl) ?_
      refine rA rfl rfl rfl rfl (fun _ => op_cat rfl rfl rfl (by omega)) ?_
      refine rA rfl rfl rfl rfl (fun _ => op_assignO rfl rfl) ?_
      refine RP.nil rfl ?_
      refine AWp_ret ?_
      (try simp only [blockQ, thenQ])
      rw [itoa_big (by omega)]
      exact ResQ_10 rfl hcl trivial (Ret_of rfl)

theorem ritoa_c (n : Int) (σ : List AO) (hn3 : -9223372036854775807 ≤ n) (hn4 : n ≤ 9223372036854775807) : ACalls Tryd.prog 25 [.int .i64 n] σ (Ret (.str (itoaB n)) σ) := by
  refine ACalls_body Tryd.func25 rfl Tryd.ntmps25 (res1 Tryd.results25) (Nat.le_of_ble_eq_true rfl) (fun hcl hal => ?_)
  have h1s : ∀ x, (ByteArray.mk #[x]).size = 1 := fun x => rfl
  have hsz := itoa_size (n := n / 10) (by omega) (by omega)
  have hsz2 := itoa_size (n := -n) (by omega) (by omega)
  have hs3 := h1s (u8b (48 + n % 10))
  have hs4 := h1s 45
  refine AWp_seq ?_
  -- region 0 ref.go:51
  refine AWp_regL ?_
  refine st rfl rfl rfl (op_assignO rfl rfl) ?_
  refine AOps_nil ?_
  refine AWp_seq ?_
  refine AWp_seq ?_
  -- region 1 ref.go:52
  refine AWp_regL ?_
  refine st rfl rfl rfl (op_moveO rfl rfl) ?_
  refine st rfl rfl rfl (op_lss rfl rfl rfl) ?_
  refine AOps_nil ?_
  refine AWp_cond rfl (fun h1 => ?_) (fun h1 => ?_)
  · (try rw [h1]); (try simp only [decide_eq_true_eq, decide_eq_false_iff_not, Bool.not_eq_true', Bool.not_eq_false', Int.not_lt, Int.not_le, Bool.not_true, Bool.not_false, Int.toNat_natCast, bne_iff_ne, beq_iff_eq, beq_eq_false_iff_ne, ne_eq, Decidable.not_not] at h1)
    refine AWp_seq ?_
    -- region 2 ref.go:53
    refine AWp_regL ?_
    refine st rfl rfl rfl (op_moveO rfl rfl) ?_
    refine st rfl rfl rfl (op_neg64 rfl rfl (by omega) (by omega)) ?_
    refine st rfl rfl rfl (op_callF rfl rfl rfl Tryd.func25 rfl rfl (ritoaP ((-n).toNat + 1) (-n) _ (by omega) (by omega) (by omega))) ?_
    refine st rfl rfl rfl (op_cat rfl rfl rfl (by omega)) ?_
    refine st rfl rfl rfl (op_assignO rfl rfl) ?_
    refine AOps_nil ?_
    refine AWp_ret ?_
    (try simp only [blockQ, thenQ])
    rw [itoa_neg h1]
    exact ResQ_10 rfl hcl trivial (Ret_of rfl)
  · (try rw [h1]); (try simp only [decide_eq_true_eq, decide_eq_false_iff_not, Bool.not_eq_true', Bool.not_eq_false', Int.not_lt, Int.not_le, Bool.not_true, Bool.not_false, Int.toNat_natCast, bne_iff_ne, beq_iff_eq, beq_eq_false_iff_ne, ne_eq, Decidable.not_not] at h1)
    refine AWp_skip ?_
    refine AWp_seq ?_
    refine AWp_seq ?_
    -- region 3 ref.go:55
    refine AWp_regL ?_
    refine st rfl rfl rfl (op_moveO rfl rfl) ?_
    refine st rfl rfl rfl (op_lss rfl rfl rfl) ?_
    refine AOps_nil ?_
    refine AWp_cond rfl (fun h2 => ?_) (fun h2 => ?_)
    · (try rw [h2]); (try simp only [decide_eq_true_eq, decide_eq_false_iff_not, Bool.not_eq_true', Bool.not_eq_false', Int.not_lt, Int.not_le, Bool.not_true, Bool.not_false, Int.toNat_natCast, bne_iff_ne, beq_iff_eq, beq_eq_false_iff_ne, ne_eq, Decidable.not_not] at h2)
      refine AWp_seq ?_
      -- region 4 ref.go:56
      refine AWp_regL ?_
      refine st rfl rfl rfl (op_moveO rfl rfl) ?_
      refine st rfl rfl rfl (op_add64 rfl rfl rfl (by omega) (by omega)) ?_
      refine st rfl rfl rfl (op_convIn rfl (by rw [Tryd.underlying3]; rfl) Tryd.underlying5 rfl (by first | rfl | exact wrap64_in (by omega) (by omega) | exact wrapu8_in (by omega) (by omega) | (simp only [IntKind.wrap]; omega))) ?_
      refine st rfl rfl rfl (op_buildSlice [[_]] rfl Tryd.underlying45 Tryd.sizeOf5 Tryd.zeroValue5 rfl (by decide) (by decide) rfl rfl rfl rfl rfl) ?_
      refine st rfl rfl rfl (op_bytesStr (b := _) (m := 1) rfl Tryd.underlying45 Tryd.underlying5 Tryd.underlying9 (bs1 ⟨by omega, by omega⟩) rfl rfl) ?_
      refine st rfl rfl rfl (op_assignO rfl rfl) ?_
      refine AOps_nil ?_
      refine AWp_ret ?_
      (try simp only [blockQ, thenQ])
      rw [itoa_small (by omega) h2]
      exact ResQ_10 rfl hcl trivial (Ret_of rfl)
    · (try rw [h2]); (try simp only [decide_eq_true_eq, decide_eq_false_iff_not, Bool.not_eq_true', Bool.not_eq_false', Int.not_lt, Int.not_le, Bool.not_true, Bool.not_false, Int.toNat_natCast, bne_iff_ne, beq_iff_eq, beq_eq_false_iff_ne, ne_eq, Decidable.not_not] at h2)
      refine AWp_skip ?_
      refine AWp_seq ?_
      -- region 5 ref.go:58 DRAWN
      refine AWp_drawL #[0, 1, 3, 0, 8, 24, 56, 120, 248, 511, 1023] Tryd.mixed (by decide +kernel) (by decide +kernel) ?_
      refine rA rfl rfl rfl rfl (fun _ => op_moveO rfl rfl) ?_
      refine rA rfl rfl rfl rfl (fun _ => op_quo64 rfl rfl rfl (by omega) (by omega) (by omega)) ?_
      refine rP rfl rfl rfl rfl (op_callF rfl rfl rfl Tryd.func25 rfl rfl (ritoaP ((n / 10).toNat + 1) (n / 10) _ (by omega) (by omega) (by omega))) (trivial) ?_
      refine rA rfl rfl rfl rfl (fun _ => op_moveO rfl rfl) ?_
      refine rA rfl rfl rfl rfl (fun _ => op_rem64 rfl rfl rfl (by omega) (by omega)) ?_
      refine rA rfl rfl rfl rfl (fun _ => op_add64 rfl rfl rfl (by omega) (by omega)) ?_
      refine rA rfl rfl rfl rfl (fun _ => op_convIn rfl (by rw [Tryd.underlying3]; rfl) Tryd.underlying5 rfl (by first | rfl | exact wrap64_in (by omega) (by omega) | exact wrapu8_in (by omega) (by omega) | (simp only [IntKind.wrap]; omega))) ?_
      refine rA rfl rfl rfl rfl (fun _ => op_buildSlice [[_]] rfl Tryd.underlying45 Tryd.sizeOf5 Tryd.zeroValue5 rfl (by decide) (by decide) rfl rfl rfl rfl rfl) ?_
      refine rA rfl rfl rfl rfl (fun _ => op_bytesStr (b := _) (m := 1) rfl Tryd.underlying45 Tryd.underlying5 Tryd.underlying9 (bs1 ⟨by omega, by omega⟩) rfl rfl) ?_
      refine rA rfl rfl rfl rfl (fun _ => op_cat rfl rfl rfl (by omega)) ?_
      refine rA rfl rfl rfl rfl (fun _ => op_assignO rfl rfl) ?_
      refine RP.nil rfl ?_
      refine AWp_ret ?_
      (try simp only [blockQ, thenQ])
      rw [itoa_big (by omega)]
      exact ResQ_10 rfl hcl trivial (Ret_of rfl)

theorem rshow_c (n : JNum) (σ : List AO) (hb : n.digits.size ≤ 1000000 ∧ -1000000 ≤ n.exp ∧ n.exp ≤ 1000000) : ACalls Tryd.prog 12 [.agg (ncells n)] σ (Ret (.str (jshow n)) σ) := by
  refine ACalls_body Tryd.func12 rfl Tryd.ntmps12 (res1 Tryd.results12) (Nat.le_of_ble_eq_true rfl) (fun hcl hal => ?_)
  have h1s : (ByteArray.mk #[45]).size = 1 := rfl
  have h2s : (ByteArray.mk #[101]).size = 1 := rfl
  have hsz := itoa_size (n := n.exp) (by omega) (by omega)
  have hsa := ByteArray.size_append (a := (⟨#[45]⟩ : ByteArray)) (b := n.digits)
  have hsb := ByteArray.size_append (a := n.digits) (b := (⟨#[101]⟩ : ByteArray))
  have hsc := ByteArray.size_append (a := (⟨#[45]⟩ : ByteArray) ++ n.digits) (b := (⟨#[101]⟩ : ByteArray))
  refine AWp_seq ?_
  -- region 0 ref.go:136
  refine AWp_regL ?_
  refine st rfl rfl rfl (op_box0 (cs := [_, _, _]) rfl rfl rfl) ?_
  refine st rfl rfl rfl (op_assignO rfl rfl) ?_
  refine AOps_nil ?_
  refine AWp_seq ?_
  refine AWp_seq ?_
  -- region 1 ref.go:137
  refine AWp_regL ?_
  refine st rfl rfl rfl (op_fieldAddrO (fo := 1) rfl Tryd.underlying24 rfl rfl Tryd.sizeOf9 (by decide) rfl trivial) ?_
  refine st rfl rfl rfl (op_load1 rfl Tryd.isAgg9 (by first | exact ldv_own rfl rfl | exact ldv_pp rfl | exact ldv_old (by assumption) rfl | exact ldv_ptr (by assumption) rfl)) ?_
  refine st rfl rfl rfl (op_seql rfl rfl rfl) ?_
  refine AOps_nil ?_
  refine AWp_cond rfl (fun h1 => ?_) (fun h1 => ?_)
  · (try rw [h1]); (try simp only [decide_eq_true_eq, decide_eq_false_iff_not, Bool.not_eq_true', Bool.not_eq_false', Int.not_lt, Int.not_le, Bool.not_true, Bool.not_false, Int.toNat_natCast, bne_iff_ne, beq_iff_eq, beq_eq_false_iff_ne, ne_eq, Decidable.not_not] at h1)
    refine AWp_seq ?_
    -- region 2 ref.go:138
    refine AWp_regL ?_
    refine st rfl rfl rfl (op_assignO rfl rfl) ?_
    refine AOps_nil ?_
    refine AWp_ret ?_
    (try simp only [blockQ, thenQ])
    refine ResQ_1 rfl hcl trivial (Ret_of ?_)
    unfold jshow; first | (rw [if_pos (by assumption)]; done) | (rw [if_neg (by assumption), if_pos (by assumption), if_pos (by assumption)]; done) | (rw [if_neg (by assumption), if_pos (by assumption), if_neg (by simp [*])]; done) | (rw [if_neg (by assumption), if_neg (by assumption), if_pos (by assumption)]; done) | (rw [if_neg (by assumption), if_neg (by assumption), if_neg (by simp [*])]; done)
  · (try rw [h1]); (try simp only [decide_eq_true_eq, decide_eq_false_iff_not, Bool.not_eq_true', Bool.not_eq_false', Int.not_lt, Int.not_le, Bool.not_true, Bool.not_false, Int.toNat_natCast, bne_iff_ne, beq_iff_eq, beq_eq_false_iff_ne, ne_eq, Decidable.not_not] at h1)
    refine AWp_skip ?_
    refine AWp_seq ?_
    -- region 3 ref.go:140
    refine AWp_regL ?_
    refine st rfl rfl rfl (op_fieldAddrO (fo := 1) rfl Tryd.underlying24 rfl rfl Tryd.sizeOf9 (by decide) rfl trivial) ?_
    refine st rfl rfl rfl (op_load1 rfl Tryd.isAgg9 (by first | exact ldv_own rfl rfl | exact ldv_pp rfl | exact ldv_old (by assumption) rfl | exact ldv_ptr (by assumption) rfl)) ?_
    refine st rfl rfl rfl (op_assignO rfl rfl) ?_
    refine AOps_nil ?_
    refine AWp_seq ?_
    refine AWp_seq ?_
    -- region 4 ref.go:141
    refine AWp_regL ?_
    refine st rfl rfl rfl (op_fieldAddrO (fo := 0) rfl Tryd.underlying24 rfl rfl Tryd.sizeOf4 (by decide) rfl trivial) ?_
    refine st rfl rfl rfl (op_load1 rfl Tryd.isAgg4 (by first | exact ldv_own rfl rfl | exact ldv_pp rfl | exact ldv_old (by assumption) rfl | exact ldv_ptr (by assumption) rfl)) ?_
    refine AOps_nil ?_
    refine AWp_cond rfl (fun h2 => ?_) (fun h2 => ?_)
    · (try rw [h2]); (try simp only [decide_eq_true_eq, decide_eq_false_iff_not, Bool.not_eq_true', Bool.not_eq_false', Int.not_lt, Int.not_le, Bool.not_true, Bool.not_false, Int.toNat_natCast, bne_iff_ne, beq_iff_eq, beq_eq_false_iff_ne, ne_eq, Decidable.not_not] at h2)
      -- region 5 ref.go:142
      refine AWp_regL ?_
      refine st rfl rfl rfl (op_moveO rfl rfl) ?_
      refine st rfl rfl rfl (op_cat rfl rfl rfl (by omega)) ?_
      refine st rfl rfl rfl (op_assignO rfl rfl) ?_
      refine AOps_nil ?_
      refine AWp_seq ?_
      refine AWp_seq ?_
      -- region 6 ref.go:144
      refine AWp_regL ?_
      refine st rfl rfl rfl (op_fieldAddrO (fo := 2) rfl Tryd.underlying24 rfl rfl Tryd.sizeOf3 (by decide) rfl trivial) ?_
      refine st rfl rfl rfl (op_load1 rfl Tryd.isAgg3 (by first | exact ldv_own rfl rfl | exact ldv_pp rfl | exact ldv_old (by assumption) rfl | exact ldv_ptr (by assumption) rfl)) ?_
      refine st rfl rfl rfl (op_neq rfl rfl rfl) ?_
      refine AOps_nil ?_
      refine AWp_cond rfl (fun h3 => ?_) (fun h3 => ?_)
      · (try rw [h3]); (try simp only [decide_eq_true_eq, decide_eq_false_iff_not, Bool.not_eq_true', Bool.not_eq_false', Int.not_lt, Int.not_le, Bool.not_true, Bool.not_false, Int.toNat_natCast, bne_iff_ne, beq_iff_eq, beq_eq_false_iff_ne, ne_eq, Decidable.not_not] at h3)
        -- region 7 ref.go:145
        refine AWp_regL ?_
        refine st rfl rfl rfl (op_moveO rfl rfl) ?_
        refine st rfl rfl rfl (op_cat rfl rfl rfl (by omega)) ?_
        refine st rfl rfl rfl (op_fieldAddrO (fo := 2) rfl Tryd.underlying24 rfl rfl Tryd.sizeOf3 (by decide) rfl trivial) ?_
        refine st rfl rfl rfl (op_load1 rfl Tryd.isAgg3 (by first | exact ldv_own rfl rfl | exact ldv_pp rfl | exact ldv_old (by assumption) rfl | exact ldv_ptr (by assumption) rfl)) ?_
        refine st rfl rfl rfl (op_callF rfl rfl rfl Tryd.func25 rfl rfl (ritoa_c n.exp _ (by omega) (by omega))) ?_
        refine st rfl rfl rfl (op_cat rfl rfl rfl (by omega)) ?_
        refine st rfl rfl rfl (op_assignO rfl rfl) ?_
        refine AOps_nil ?_
        refine AWp_seq ?_
        -- region 8 ref.go:147
        refine AWp_regL ?_
        refine st rfl rfl rfl (op_moveO rfl rfl) ?_
        refine st rfl rfl rfl (op_assignO rfl rfl) ?_
        refine AOps_nil ?_
        refine AWp_ret ?_
        (try simp only [blockQ, thenQ])
        refine ResQ_1 rfl hcl trivial (Ret_of ?_)
        unfold jshow; first | (rw [if_pos (by assumption)]; done) | (rw [if_neg (by assumption), if_pos (by assumption), if_pos (by assumption)]; done) | (rw [if_neg (by assumption), if_pos (by assumption), if_neg (by simp [*])]; done) | (rw [if_neg (by assumption), if_neg (by assumption), if_pos (by assumption)]; done) | (rw [if_neg (by assumption), if_neg (by assumption), if_neg (by simp [*])]; done)
      · (try rw [h3]); (try simp only [decide_eq_true_eq, decide_eq_false_iff_not, Bool.not_eq_true', Bool.not_eq_false', Int.not_lt, Int.not_le, Bool.not_true, Bool.not_false, Int.toNat_natCast, bne_iff_ne, beq_iff_eq, beq_eq_false_iff_ne, ne_eq, Decidable.not_not] at h3)
        refine AWp_skip ?_
        refine AWp_seq ?_
        -- region 8 ref.go:147
        refine AWp_regL ?_
        refine st rfl rfl rfl (op_moveO rfl rfl) ?_
        refine st rfl rfl rfl (op_assignO rfl rfl) ?_
        refine AOps_nil ?_
        refine AWp_ret ?_
        (try simp only [blockQ, thenQ])
        refine ResQ_1 rfl hcl trivial (Ret_of ?_)
        unfold jshow; first | (rw [if_pos (by assumption)]; done) | (rw [if_neg (by assumption), if_pos (by assumption), if_pos (by assumption)]; done) | (rw [if_neg (by assumption), if_pos (by assumption), if_neg (by simp [*])]; done) | (rw [if_neg (by assumption), if_neg (by assumption), if_pos (by assumption)]; done) | (rw [if_neg (by assumption), if_neg (by assumption), if_neg (by simp [*])]; done)
    · (try rw [h2]); (try simp only [decide_eq_true_eq, decide_eq_false_iff_not, Bool.not_eq_true', Bool.not_eq_false', Int.not_lt, Int.not_le, Bool.not_true, Bool.not_false, Int.toNat_natCast, bne_iff_ne, beq_iff_eq, beq_eq_false_iff_ne, ne_eq, Decidable.not_not] at h2)
      refine AWp_skip ?_
      refine AWp_seq ?_
      refine AWp_seq ?_
      -- region 6 ref.go:144
      refine AWp_regL ?_
      refine st rfl rfl rfl (op_fieldAddrO (fo := 2) rfl Tryd.underlying24 rfl rfl Tryd.sizeOf3 (by decide) rfl trivial) ?_
      refine st rfl rfl rfl (op_load1 rfl Tryd.isAgg3 (by first | exact ldv_own rfl rfl | exact ldv_pp rfl | exact ldv_old (by assumption) rfl | exact ldv_ptr (by assumption) rfl)) ?_
      refine st rfl rfl rfl (op_neq rfl rfl rfl) ?_
      refine AOps_nil ?_
      refine AWp_cond rfl (fun h4 => ?_) (fun h4 => ?_)
      · (try rw [h4]); (try simp only [decide_eq_true_eq, decide_eq_false_iff_not, Bool.not_eq_true', Bool.not_eq_false', Int.not_lt, Int.not_le, Bool.not_true, Bool.not_false, Int.toNat_natCast, bne_iff_ne, beq_iff_eq, beq_eq_false_iff_ne, ne_eq, Decidable.not_not] at h4)
        -- region 7 ref.go:145
        refine AWp_regL ?_
        refine st rfl rfl rfl (op_moveO rfl rfl) ?_
        refine st rfl rfl rfl (op_cat rfl rfl rfl (by omega)) ?_
        refine st rfl rfl rfl (op_fieldAddrO (fo := 2) rfl Tryd.underlying24 rfl rfl Tryd.sizeOf3 (by decide) rfl trivial) ?_
        refine st rfl rfl rfl (op_load1 rfl Tryd.isAgg3 (by first | exact ldv_own rfl rfl | exact ldv_pp rfl | exact ldv_old (by assumption) rfl | exact ldv_ptr (by assumption) rfl)) ?_
        refine st rfl rfl rfl (op_callF rfl rfl rfl Tryd.func25 rfl rfl (ritoa_c n.exp _ (by omega) (by omega))) ?_
        refine st rfl rfl rfl (op_cat rfl rfl rfl (by omega)) ?_
        refine st rfl rfl rfl (op_assignO rfl rfl) ?_
        refine AOps_nil ?_
        refine AWp_seq ?_
        -- region 8 ref.go:147
        refine AWp_regL ?_
        refine st rfl rfl rfl (op_moveO rfl rfl) ?_
        refine st rfl rfl rfl (op_assignO rfl rfl) ?_
        refine AOps_nil ?_
        refine AWp_ret ?_
        (try simp only [blockQ, thenQ])
        refine ResQ_1 rfl hcl trivial (Ret_of ?_)
        unfold jshow; first | (rw [if_pos (by assumption)]; done) | (rw [if_neg (by assumption), if_pos (by assumption), if_pos (by assumption)]; done) | (rw [if_neg (by assumption), if_pos (by assumption), if_neg (by simp [*])]; done) | (rw [if_neg (by assumption), if_neg (by assumption), if_pos (by assumption)]; done) | (rw [if_neg (by assumption), if_neg (by assumption), if_neg (by simp [*])]; done)
      · (try rw [h4]); (try simp only [decide_eq_true_eq, decide_eq_false_iff_not, Bool.not_eq_true', Bool.not_eq_false', Int.not_lt, Int.not_le, Bool.not_true, Bool.not_false, Int.toNat_natCast, bne_iff_ne, beq_iff_eq, beq_eq_false_iff_ne, ne_eq, Decidable.not_not] at h4)
        refine AWp_skip ?_
        refine AWp_seq ?_
        -- region 8 ref.go:147
        refine AWp_regL ?_
        refine st rfl rfl rfl (op_moveO rfl rfl) ?_
        refine st rfl rfl rfl (op_assignO rfl rfl) ?_
        refine AOps_nil ?_
        refine AWp_ret ?_
        (try simp only [blockQ, thenQ])
        refine ResQ_1 rfl hcl trivial (Ret_of ?_)
        unfold jshow; first | (rw [if_pos (by assumption)]; done) | (rw [if_neg (by assumption), if_pos (by assumption), if_pos (by assumption)]; done) | (rw [if_neg (by assumption), if_pos (by assumption), if_neg (by simp [*])]; done) | (rw [if_neg (by assumption), if_neg (by assumption), if_pos (by assumption)]; done) | (rw [if_neg (by assumption), if_neg (by assumption), if_neg (by simp [*])]; done)

theorem rless_c (a b : JNum) (σ : List AO) (ha : a.digits.size ≤ 1000000 ∧ -1000000 ≤ a.exp ∧ a.exp ≤ 1000000) (hb : b.digits.size ≤ 1000000 ∧ -1000000 ≤ b.exp ∧ b.exp ≤ 1000000) : ACalls Tryd.prog 30 [.agg (ncells a), .agg (ncells b)] σ (Ret (.bool (rLess a b)) σ) := by
  refine ACalls_body Tryd.func30 rfl Tryd.ntmps30 (res1 Tryd.results30) (Nat.le_of_ble_eq_true rfl) (fun hcl hal => ?_)
  have hz1 : (ba (zer (a.exp - (min a.exp b.exp)))).size ≤ 2000000 := by rw [ba_size]; unfold zer; rw [List.length_replicate]; omega
  have hz2 : (ba (zer (b.exp - (min a.exp b.exp)))).size ≤ 2000000 := by rw [ba_size]; unfold zer; rw [List.length_replicate]; omega
  refine AWp_seq ?_
  -- region 0 ref.go:160
  refine AWp_regL ?_
  refine st rfl rfl rfl (op_box0 (cs := [_, _, _]) rfl rfl rfl) ?_
  refine st rfl rfl rfl (op_boxO (cs := [_, _, _]) 1 rfl rfl rfl rfl) ?_
  refine st rfl rfl rfl (op_assignO rfl rfl) ?_
  refine AOps_nil ?_
  refine AWp_seq ?_
  refine AWp_seq ?_
  -- region 1 ref.go:161
  refine AWp_regL ?_
  refine st rfl rfl rfl (op_fieldAddrO (fo := 0) rfl Tryd.underlying24 rfl rfl Tryd.sizeOf4 (by decide) rfl trivial) ?_
  refine st rfl rfl rfl (op_load1 rfl Tryd.isAgg4 (by first | exact ldv_own rfl rfl | exact ldv_pp rfl | exact ldv_old (by assumption) rfl | exact ldv_ptr (by assumption) rfl)) ?_
  refine st rfl rfl rfl (op_fieldAddrO (fo := 0) rfl Tryd.underlying24 rfl rfl Tryd.sizeOf4 (by decide) rfl trivial) ?_
  refine st rfl rfl rfl (op_load1 rfl Tryd.isAgg4 (by first | exact ldv_own rfl rfl | exact ldv_pp rfl | exact ldv_old (by assumption) rfl | exact ldv_ptr (by assumption) rfl)) ?_
  refine st rfl rfl rfl (op_bneq rfl Tryd.underlying4 rfl rfl) ?_
  refine AOps_nil ?_
  refine AWp_cond rfl (fun h1 => ?_) (fun h1 => ?_)
  · (try rw [h1]); (try simp only [decide_eq_true_eq, decide_eq_false_iff_not, Bool.not_eq_true', Bool.not_eq_false', Int.not_lt, Int.not_le, Bool.not_true, Bool.not_false, Int.toNat_natCast, bne_iff_ne, beq_iff_eq, beq_eq_false_iff_ne, ne_eq, Decidable.not_not] at h1)
    refine AWp_seq ?_
    -- region 2 ref.go:162
    refine AWp_regL ?_
    refine st rfl rfl rfl (op_fieldAddrO (fo := 0) rfl Tryd.underlying24 rfl rfl Tryd.sizeOf4 (by decide) rfl trivial) ?_
    refine st rfl rfl rfl (op_load1 rfl Tryd.isAgg4 (by first | exact ldv_own rfl rfl | exact ldv_pp rfl | exact ldv_old (by assumption) rfl | exact ldv_ptr (by assumption) rfl)) ?_
    refine st rfl rfl rfl (op_assignO rfl rfl) ?_
    refine AOps_nil ?_
    refine AWp_ret ?_
    (try simp only [blockQ, thenQ])
    refine ResQ_1 rfl hcl trivial (Ret_of ?_)
    congr 1; unfold rLess; rw [if_neg (by simpa using h1)]
  · (try rw [h1]); (try simp only [decide_eq_true_eq, decide_eq_false_iff_not, Bool.not_eq_true', Bool.not_eq_false', Int.not_lt, Int.not_le, Bool.not_true, Bool.not_false, Int.toNat_natCast, bne_iff_ne, beq_iff_eq, beq_eq_false_iff_ne, ne_eq, Decidable.not_not] at h1)
    have hng : a.neg = b.neg := by simpa using h1
    refine AWp_skip ?_
    refine AWp_seq ?_
    -- region 3 ref.go:164
    refine AWp_regL ?_
    refine st rfl rfl rfl (op_fieldAddrO (fo := 2) rfl Tryd.underlying24 rfl rfl Tryd.sizeOf3 (by decide) rfl trivial) ?_
    refine st rfl rfl rfl (op_load1 rfl Tryd.isAgg3 (by first | exact ldv_own rfl rfl | exact ldv_pp rfl | exact ldv_old (by assumption) rfl | exact ldv_ptr (by assumption) rfl)) ?_
    refine st rfl rfl rfl (op_fieldAddrO (fo := 2) rfl Tryd.underlying24 rfl rfl Tryd.sizeOf3 (by decide) rfl trivial) ?_
    refine st rfl rfl rfl (op_load1 rfl Tryd.isAgg3 (by first | exact ldv_own rfl rfl | exact ldv_pp rfl | exact ldv_old (by assumption) rfl | exact ldv_ptr (by assumption) rfl)) ?_
    refine st rfl rfl rfl (op_min2 rfl rfl rfl) ?_
    refine st rfl rfl rfl (op_assignO rfl rfl) ?_
    refine AOps_nil ?_
    refine AWp_seq ?_
    -- region 4 ref.go:165 DRAWN
    refine AWp_drawL #[0, 1, 0, 4, 0, 28, 60, 127, 255] Tryd.mixed (by decide +kernel) (by decide +kernel) ?_
    refine rA rfl rfl rfl rfl (fun _ => op_fieldAddrO (fo := 1) rfl Tryd.underlying24 rfl rfl Tryd.sizeOf9 (by decide) rfl trivial) ?_
    refine rP rfl rfl rfl rfl (op_load1 rfl Tryd.isAgg9 (by first | exact ldv_own rfl rfl | exact ldv_pp rfl | exact ldv_old (by assumption) rfl | exact ldv_ptr (by assumption) rfl)) (trivial) ?_
    refine rA rfl rfl rfl rfl (fun _ => op_fieldAddrO (fo := 2) rfl Tryd.underlying24 rfl rfl Tryd.sizeOf3 (by decide) rfl trivial) ?_
    refine rP rfl rfl rfl rfl (op_load1 rfl Tryd.isAgg3 (by first | exact ldv_own rfl rfl | exact ldv_pp rfl | exact ldv_old (by assumption) rfl | exact ldv_ptr (by assumption) rfl)) (trivial) ?_
    refine rA rfl rfl rfl rfl (fun _ => op_moveO rfl rfl) ?_
    refine rA rfl rfl rfl rfl (fun _ => op_sub64 rfl rfl rfl (by omega) (by omega)) ?_
    refine rP rfl rfl rfl rfl (op_callF rfl rfl rfl Tryd.func46 rfl rfl (zeros_c (a.exp - (min a.exp b.exp)) _ (by omega))) (trivial) ?_
    refine rA rfl rfl rfl rfl (fun _ => op_cat rfl rfl rfl (by omega)) ?_
    refine rA rfl rfl rfl rfl (fun _ => op_assignO rfl rfl) ?_
    refine RP.nil rfl ?_
    refine AWp_seq ?_
    -- region 5 ref.go:166 DRAWN
    refine AWp_drawL #[0, 1, 0, 4, 0, 28, 60, 127, 255] Tryd.mixed (by decide +kernel) (by decide +kernel) ?_
    refine rA rfl rfl rfl rfl (fun _ => op_fieldAddrO (fo := 1) rfl Tryd.underlying24 rfl rfl Tryd.sizeOf9 (by decide) rfl trivial) ?_
    refine rP rfl rfl rfl rfl (op_load1 rfl Tryd.isAgg9 (by first | exact ldv_own rfl rfl | exact ldv_pp rfl | exact ldv_old (by assumption) rfl | exact ldv_ptr (by assumption) rfl)) (trivial) ?_
    refine rA rfl rfl rfl rfl (fun _ => op_fieldAddrO (fo := 2) rfl Tryd.underlying24 rfl rfl Tryd.sizeOf3 (by decide) rfl trivial) ?_
    refine rP rfl rfl rfl rfl (op_load1 rfl Tryd.isAgg3 (by first | exact ldv_own rfl rfl | exact ldv_pp rfl | exact ldv_old (by assumption) rfl | exact ldv_ptr (by assumption) rfl)) (trivial) ?_
    refine rA rfl rfl rfl rfl (fun _ => op_moveO rfl rfl) ?_
    refine rA rfl rfl rfl rfl (fun _ => op_sub64 rfl rfl rfl (by omega) (by omega)) ?_
    refine rP rfl rfl rfl rfl (op_callF rfl rfl rfl Tryd.func46 rfl rfl (zeros_c (b.exp - (min a.exp b.exp)) _ (by omega))) (trivial) ?_
    refine rA rfl rfl rfl rfl (fun _ => op_cat rfl rfl rfl (by omega)) ?_
    refine rA rfl rfl rfl rfl (fun _ => op_assignO rfl rfl) ?_
    refine RP.nil rfl ?_
    refine AWp_join (ι := Unit) (fun w0 => True) (fun w0 => ⟨[], [(2, .ptr (σ.length + 0) 0), (3, .ptr (σ.length + 1) 0), (6, .str (jexp a (min a.exp b.exp))), (7, .str (b.digits ++ ba (zer (b.exp - (min a.exp b.exp)))))]⟩) (fun w0 => σ ++ [.box (ncells a), .box (ncells b)]) ?_ (fun w0 hj => ?_)
    · skip
      refine AWp_seq ?_
      -- region 6 ref.go:167
      refine AWp_regL ?_
      refine st rfl rfl rfl (op_fieldAddrO (fo := 1) rfl Tryd.underlying24 rfl rfl Tryd.sizeOf9 (by decide) rfl trivial) ?_
      refine st rfl rfl rfl (op_load1 rfl Tryd.isAgg9 (by first | exact ldv_own rfl rfl | exact ldv_pp rfl | exact ldv_old (by assumption) rfl | exact ldv_ptr (by assumption) rfl)) ?_
      refine st rfl rfl rfl (op_seql rfl rfl rfl) ?_
      refine AOps_nil ?_
      refine AWp_cond rfl (fun h2 => ?_) (fun h2 => ?_)
      · (try rw [h2]); (try simp only [decide_eq_true_eq, decide_eq_false_iff_not, Bool.not_eq_true', Bool.not_eq_false', Int.not_lt, Int.not_le, Bool.not_true, Bool.not_false, Int.toNat_natCast, bne_iff_ne, beq_iff_eq, beq_eq_false_iff_ne, ne_eq, Decidable.not_not] at h2)
        -- region 7 ref.go:168
        refine AWp_regL ?_
        refine st rfl rfl rfl (op_assignO rfl rfl) ?_
        refine AOps_nil ?_
        refine ⟨(), trivial, ⟨rfl, rfl, rfl, ?_, rfl, trivial⟩, rfl⟩
        first | (rw [show jexp a (min a.exp b.exp) = (⟨#[]⟩ : ByteArray) by unfold jexp; rw [if_pos (by assumption)]]; rfl) | (rw [show jexp a (min a.exp b.exp) = a.digits ++ ba (zer (a.exp - (min a.exp b.exp))) by unfold jexp; rw [if_neg (by assumption)]]; rfl)
      · (try rw [h2]); (try simp only [decide_eq_true_eq, decide_eq_false_iff_not, Bool.not_eq_true', Bool.not_eq_false', Int.not_lt, Int.not_le, Bool.not_true, Bool.not_false, Int.toNat_natCast, bne_iff_ne, beq_iff_eq, beq_eq_false_iff_ne, ne_eq, Decidable.not_not] at h2)
        refine AWp_skip ?_
        refine ⟨(), trivial, ⟨rfl, rfl, rfl, ?_, rfl, trivial⟩, rfl⟩
        first | (rw [show jexp a (min a.exp b.exp) = (⟨#[]⟩ : ByteArray) by unfold jexp; rw [if_pos (by assumption)]]; rfl) | (rw [show jexp a (min a.exp b.exp) = a.digits ++ ba (zer (a.exp - (min a.exp b.exp))) by unfold jexp; rw [if_neg (by assumption)]]; rfl)
    · skip
      refine AWp_join (ι := Unit) (fun w0 => True) (fun w0 => ⟨[], [(2, .ptr (σ.length + 0) 0), (3, .ptr (σ.length + 1) 0), (6, .str (jexp a (min a.exp b.exp))), (7, .str (jexp b (min a.exp b.exp)))]⟩) (fun w0 => σ ++ [.box (ncells a), .box (ncells b)]) ?_ (fun w0 hj => ?_)
      · skip
        refine AWp_seq ?_
        -- region 8 ref.go:170
        refine AWp_regL ?_
        refine st rfl rfl rfl (op_fieldAddrO (fo := 1) rfl Tryd.underlying24 rfl rfl Tryd.sizeOf9 (by decide) rfl trivial) ?_
        refine st rfl rfl rfl (op_load1 rfl Tryd.isAgg9 (by first | exact ldv_own rfl rfl | exact ldv_pp rfl | exact ldv_old (by assumption) rfl | exact ldv_ptr (by assumption) rfl)) ?_
        refine st rfl rfl rfl (op_seql rfl rfl rfl) ?_
        refine AOps_nil ?_
        refine AWp_cond rfl (fun h3 => ?_) (fun h3 => ?_)
        · (try rw [h3]); (try simp only [decide_eq_true_eq, decide_eq_false_iff_not, Bool.not_eq_true', Bool.not_eq_false', Int.not_lt, Int.not_le, Bool.not_true, Bool.not_false, Int.toNat_natCast, bne_iff_ne, beq_iff_eq, beq_eq_false_iff_ne, ne_eq, Decidable.not_not] at h3)
          -- region 9 ref.go:171
          refine AWp_regL ?_
          refine st rfl rfl rfl (op_assignO rfl rfl) ?_
          refine AOps_nil ?_
          refine ⟨(), trivial, ⟨rfl, rfl, rfl, rfl, ?_, trivial⟩, rfl⟩
          first | (rw [show jexp b (min a.exp b.exp) = (⟨#[]⟩ : ByteArray) by unfold jexp; rw [if_pos (by assumption)]]; rfl) | (rw [show jexp b (min a.exp b.exp) = b.digits ++ ba (zer (b.exp - (min a.exp b.exp))) by unfold jexp; rw [if_neg (by assumption)]]; rfl)
        · (try rw [h3]); (try simp only [decide_eq_true_eq, decide_eq_false_iff_not, Bool.not_eq_true', Bool.not_eq_false', Int.not_lt, Int.not_le, Bool.not_true, Bool.not_false, Int.toNat_natCast, bne_iff_ne, beq_iff_eq, beq_eq_false_iff_ne, ne_eq, Decidable.not_not] at h3)
          refine AWp_skip ?_
          refine ⟨(), trivial, ⟨rfl, rfl, rfl, rfl, ?_, trivial⟩, rfl⟩
          first | (rw [show jexp b (min a.exp b.exp) = (⟨#[]⟩ : ByteArray) by unfold jexp; rw [if_pos (by assumption)]]; rfl) | (rw [show jexp b (min a.exp b.exp) = b.digits ++ ba (zer (b.exp - (min a.exp b.exp))) by unfold jexp; rw [if_neg (by assumption)]]; rfl)
      · skip
        refine AWp_join (ι := ByteArray × ByteArray) (fun z => rLess a b = lessS z.1 z.2) (fun z => ⟨[], [(6, .str z.1), (7, .str z.2)]⟩) (fun z => σ ++ [.box (ncells a), .box (ncells b)]) ?_ (fun z hj => ?_)
        · skip
          refine AWp_seq ?_
          -- region 10 ref.go:173
          refine AWp_regL ?_
          refine st rfl rfl rfl (op_fieldAddrO (fo := 0) rfl Tryd.underlying24 rfl rfl Tryd.sizeOf4 (by decide) rfl trivial) ?_
          refine st rfl rfl rfl (op_load1 rfl Tryd.isAgg4 (by first | exact ldv_own rfl rfl | exact ldv_pp rfl | exact ldv_old (by assumption) rfl | exact ldv_ptr (by assumption) rfl)) ?_
          refine AOps_nil ?_
          refine AWp_cond rfl (fun h4 => ?_) (fun h4 => ?_)
          · (try rw [h4]); (try simp only [decide_eq_true_eq, decide_eq_false_iff_not, Bool.not_eq_true', Bool.not_eq_false', Int.not_lt, Int.not_le, Bool.not_true, Bool.not_false, Int.toNat_natCast, bne_iff_ne, beq_iff_eq, beq_eq_false_iff_ne, ne_eq, Decidable.not_not] at h4)
            refine AWp_seq ?_
            -- region 11 ref.go:174
            refine AWp_regL ?_
            refine st rfl rfl rfl (op_moveO rfl rfl) ?_
            refine st rfl rfl rfl (op_assignO rfl rfl) ?_
            refine AOps_nil ?_
            refine AWp_seq ?_
            -- region 12 ref.go:175
            refine AWp_regL ?_
            refine st rfl rfl rfl (op_moveO rfl rfl) ?_
            refine st rfl rfl rfl (op_assignO rfl rfl) ?_
            refine AOps_nil ?_
            -- region 13 ref.go:176
            refine AWp_regL ?_
            refine st rfl rfl rfl (op_moveO rfl rfl) ?_
            refine st rfl rfl rfl (op_assignO rfl rfl) ?_
            refine AOps_nil ?_
            exact ⟨(jexp b (min a.exp b.exp), jexp a (min a.exp b.exp)), by unfold rLess; rw [if_pos hng, if_pos (by assumption)], ⟨rfl, rfl, rfl, trivial⟩, rfl⟩
          · (try rw [h4]); (try simp only [decide_eq_true_eq, decide_eq_false_iff_not, Bool.not_eq_true', Bool.not_eq_false', Int.not_lt, Int.not_le, Bool.not_true, Bool.not_false, Int.toNat_natCast, bne_iff_ne, beq_iff_eq, beq_eq_false_iff_ne, ne_eq, Decidable.not_not] at h4)
            refine AWp_skip ?_
            exact ⟨(jexp a (min a.exp b.exp), jexp b (min a.exp b.exp)), by unfold rLess; rw [if_pos hng, if_neg (by simp_all)], ⟨rfl, rfl, rfl, trivial⟩, rfl⟩
        · skip
          obtain ⟨x, y⟩ := z
          simp only at hj ⊢
          refine AWp_seq ?_
          refine AWp_seq ?_
          -- region 14 ref.go:178
          refine AWp_regL ?_
          refine st rfl rfl rfl (op_moveO rfl rfl) ?_
          refine st rfl rfl rfl (op_lenStr rfl rfl Tryd.underlying9 rfl) ?_
          refine st rfl rfl rfl (op_moveO rfl rfl) ?_
          refine st rfl rfl rfl (op_lenStr rfl rfl Tryd.underlying9 rfl) ?_
          refine st rfl rfl rfl (op_neq rfl rfl rfl) ?_
          refine AOps_nil ?_
          refine AWp_cond rfl (fun h5 => ?_) (fun h5 => ?_)
          · (try rw [h5]); (try simp only [decide_eq_true_eq, decide_eq_false_iff_not, Bool.not_eq_true', Bool.not_eq_false', Int.not_lt, Int.not_le, Bool.not_true, Bool.not_false, Int.toNat_natCast, bne_iff_ne, beq_iff_eq, beq_eq_false_iff_ne, ne_eq, Decidable.not_not] at h5)
            refine AWp_seq ?_
            -- region 15 ref.go:179
            refine AWp_regL ?_
            refine st rfl rfl rfl (op_moveO rfl rfl) ?_
            refine st rfl rfl rfl (op_lenStr rfl rfl Tryd.underlying9 rfl) ?_
            refine st rfl rfl rfl (op_moveO rfl rfl) ?_
            refine st rfl rfl rfl (op_lenStr rfl rfl Tryd.underlying9 rfl) ?_
            refine st rfl rfl rfl (op_lss rfl rfl rfl) ?_
            refine st rfl rfl rfl (op_assignO rfl rfl) ?_
            refine AOps_nil ?_
            refine AWp_ret ?_
            (try simp only [blockQ, thenQ])
            refine ResQ_1 rfl hcl trivial (Ret_of ?_)
            rw [hj]; congr 1; unfold lessS; first | (rw [if_neg (by omega)]; exact decide_eq_decide.2 (by omega)) | (rw [if_pos (by omega)]; done)
          · (try rw [h5]); (try simp only [decide_eq_true_eq, decide_eq_false_iff_not, Bool.not_eq_true', Bool.not_eq_false', Int.not_lt, Int.not_le, Bool.not_true, Bool.not_false, Int.toNat_natCast, bne_iff_ne, beq_iff_eq, beq_eq_false_iff_ne, ne_eq, Decidable.not_not] at h5)
            refine AWp_skip ?_
            refine AWp_seq ?_
            -- region 16 ref.go:181
            refine AWp_regL ?_
            refine st rfl rfl rfl (op_moveO rfl rfl) ?_
            refine st rfl rfl rfl (op_moveO rfl rfl) ?_
            refine st rfl rfl rfl (op_slss rfl rfl rfl) ?_
            refine st rfl rfl rfl (op_assignO rfl rfl) ?_
            refine AOps_nil ?_
            refine AWp_ret ?_
            (try simp only [blockQ, thenQ])
            refine ResQ_1 rfl hcl trivial (Ret_of ?_)
            rw [hj]; congr 1; unfold lessS; first | (rw [if_neg (by omega)]; exact decide_eq_decide.2 (by omega)) | (rw [if_pos (by omega)]; done)

theorem rcmp_c (a b : JNum) (σ : List AO) (ha : a.digits.size ≤ 1000000 ∧ -1000000 ≤ a.exp ∧ a.exp ≤ 1000000) (hb : b.digits.size ≤ 1000000 ∧ -1000000 ≤ b.exp ∧ b.exp ≤ 1000000) : ACalls Tryd.prog 16 [.agg (ncells a), .agg (ncells b)] σ (Ret (.int .i64 (rCmp a b)) σ) := by
  refine ACalls_body Tryd.func16 rfl Tryd.ntmps16 (res1 Tryd.results16) (Nat.le_of_ble_eq_true rfl) (fun hcl hal => ?_)
  refine AWp_seq ?_
  -- region 0 ref.go:185
  refine AWp_regL ?_
  refine st rfl rfl rfl (op_box0 (cs := [_, _, _]) rfl rfl rfl) ?_
  refine st rfl rfl rfl (op_boxO (cs := [_, _, _]) 1 rfl rfl rfl rfl) ?_
  refine st rfl rfl rfl (op_assignO rfl rfl) ?_
  refine AOps_nil ?_
  refine AWp_seq ?_
  -- region 1 ref.go:186
  refine AWp_regL ?_
  refine st rfl rfl rfl (op_loadK (cs := [_, _, _]) rfl Tryd.isAgg24 Tryd.sizeOf24 (by first | exact ldv_own rfl rfl | exact ldv_pp rfl | exact ldv_old (by assumption) rfl | exact ldv_ptr (by assumption) rfl)) ?_
  refine st rfl rfl rfl (op_loadK (cs := [_, _, _]) rfl Tryd.isAgg24 Tryd.sizeOf24 (by first | exact ldv_own rfl rfl | exact ldv_pp rfl | exact ldv_old (by assumption) rfl | exact ldv_ptr (by assumption) rfl)) ?_
  refine st rfl rfl rfl (op_callF rfl rfl rfl Tryd.func30 rfl rfl (rless_c a b _ ha hb)) ?_
  refine st rfl rfl rfl (op_assignO rfl rfl) ?_
  refine AOps_nil ?_
  refine AWp_seq ?_
  -- region 2 ref.go:187
  refine AWp_regL ?_
  refine st rfl rfl rfl (op_loadK (cs := [_, _, _]) rfl Tryd.isAgg24 Tryd.sizeOf24 (by first | exact ldv_own rfl rfl | exact ldv_pp rfl | exact ldv_old (by assumption) rfl | exact ldv_ptr (by assumption) rfl)) ?_
  refine st rfl rfl rfl (op_loadK (cs := [_, _, _]) rfl Tryd.isAgg24 Tryd.sizeOf24 (by first | exact ldv_own rfl rfl | exact ldv_pp rfl | exact ldv_old (by assumption) rfl | exact ldv_ptr (by assumption) rfl)) ?_
  refine st rfl rfl rfl (op_callF rfl rfl rfl Tryd.func30 rfl rfl (rless_c b a _ hb ha)) ?_
  refine st rfl rfl rfl (op_assignO rfl rfl) ?_
  refine AOps_nil ?_
  refine AWp_seq ?_
  refine AWp_seq ?_
  -- region 3 ref.go:188
  refine AWp_regL ?_
  refine st rfl rfl rfl (op_moveO rfl rfl) ?_
  refine AOps_nil ?_
  refine AWp_cond rfl (fun h1 => ?_) (fun h1 => ?_)
  · (try rw [h1]); (try simp only [decide_eq_true_eq, decide_eq_false_iff_not, Bool.not_eq_true', Bool.not_eq_false', Int.not_lt, Int.not_le, Bool.not_true, Bool.not_false, Int.toNat_natCast, bne_iff_ne, beq_iff_eq, beq_eq_false_iff_ne, ne_eq, Decidable.not_not] at h1)
    refine AWp_seq ?_
    -- region 4 ref.go:189
    refine AWp_regL ?_
    refine st rfl rfl rfl (op_assignO rfl rfl) ?_
    refine AOps_nil ?_
    refine AWp_ret ?_
    (try simp only [blockQ, thenQ])
    refine ResQ_1 rfl hcl trivial (Ret_of ?_)
    congr 1; unfold rCmp; first | (rw [if_pos (by assumption)]; done) | (rw [if_neg (by simp [*]), if_pos (by assumption)]; done) | (rw [if_neg (by simp [*]), if_neg (by simp [*])]; done)
  · (try rw [h1]); (try simp only [decide_eq_true_eq, decide_eq_false_iff_not, Bool.not_eq_true', Bool.not_eq_false', Int.not_lt, Int.not_le, Bool.not_true, Bool.not_false, Int.toNat_natCast, bne_iff_ne, beq_iff_eq, beq_eq_false_iff_ne, ne_eq, Decidable.not_not] at h1)
    refine AWp_skip ?_
    refine AWp_seq ?_
    refine AWp_seq ?_
    -- region 5 ref.go:191
    refine AWp_regL ?_
    refine st rfl rfl rfl (op_moveO rfl rfl) ?_
    refine AOps_nil ?_
    refine AWp_cond rfl (fun h2 => ?_) (fun h2 => ?_)
    · (try rw [h2]); (try simp only [decide_eq_true_eq, decide_eq_false_iff_not, Bool.not_eq_true', Bool.not_eq_false', Int.not_lt, Int.not_le, Bool.not_true, Bool.not_false, Int.toNat_natCast, bne_iff_ne, beq_iff_eq, beq_eq_false_iff_ne, ne_eq, Decidable.not_not] at h2)
      refine AWp_seq ?_
      -- region 6 ref.go:192
      refine AWp_regL ?_
      refine st rfl rfl rfl (op_assignO rfl rfl) ?_
      refine AOps_nil ?_
      refine AWp_ret ?_
      (try simp only [blockQ, thenQ])
      refine ResQ_1 rfl hcl trivial (Ret_of ?_)
      congr 1; unfold rCmp; first | (rw [if_pos (by assumption)]; done) | (rw [if_neg (by simp [*]), if_pos (by assumption)]; done) | (rw [if_neg (by simp [*]), if_neg (by simp [*])]; done)
    · (try rw [h2]); (try simp only [decide_eq_true_eq, decide_eq_false_iff_not, Bool.not_eq_true', Bool.not_eq_false', Int.not_lt, Int.not_le, Bool.not_true, Bool.not_false, Int.toNat_natCast, bne_iff_ne, beq_iff_eq, beq_eq_false_iff_ne, ne_eq, Decidable.not_not] at h2)
      refine AWp_skip ?_
      refine AWp_seq ?_
      -- region 7 ref.go:194
      refine AWp_regL ?_
      refine st rfl rfl rfl (op_assignO rfl rfl) ?_
      refine AOps_nil ?_
      refine AWp_ret ?_
      (try simp only [blockQ, thenQ])
      refine ResQ_1 rfl hcl trivial (Ret_of ?_)
      congr 1; unfold rCmp; first | (rw [if_pos (by assumption)]; done) | (rw [if_neg (by simp [*]), if_pos (by assumption)]; done) | (rw [if_neg (by simp [*]), if_neg (by simp [*])]; done)

end Lg
namespace Lg
open Go
theorem hdC_true {c : UInt8} {l : BL} (h : hdC c l = true) : ∃ b q, l = b :: q ∧ b.toNat = c.toNat := by
  cases l with
  | nil => simp [hdC] at h
  | cons b q => exact ⟨b, q, rfl, by simpa [hdC] using h⟩
theorem hdC_strip {c : UInt8} {l : BL} (h : hdC c l = false) : strip c.toNat l = l := by
  cases l with
  | nil => rfl
  | cons b q => exact strip_ne (by simpa [hdC] using h)
theorem hdC_cons (c b : UInt8) (q : BL) : hdC c (b :: q) = decide (b.toNat = c.toNat) := rfl
theorem strip_ne_iff (c : UInt8) (l : BL) : (strip c.toNat l ≠ l) ↔ hdC c l = true := by
  cases l with
  | nil => simp [strip, hdC]
  | cons b r =>
    by_cases h : b.toNat = c.toNat
    · rw [strip_eq h]; simp only [hdC, h, decide_true, iff_true]
      intro e; have := congrArg List.length e; simp at this
    · rw [strip_ne h]; simp [hdC, h]
theorem pFrac_dot {b : UInt8} {q : BL} (h : b.toNat = 46) (h2 : ¬ (q.takeWhile isD).length = 0) : pFrac (b :: q) = some (q.takeWhile isD, q.dropWhile isD) := by
  simp only [pFrac]; rw [if_pos h, if_neg (by rw [List.isEmpty_iff_length_eq_zero]; exact h2)]
theorem pFrac_bad {b : UInt8} {q : BL} (h : b.toNat = 46) (h2 : (q.takeWhile isD).length = 0) : pFrac (b :: q) = none := by
  simp only [pFrac]; rw [if_pos h, if_pos (by rw [List.isEmpty_iff_length_eq_zero]; exact h2)]
theorem pFrac_not {l : BL} (h : hdC 46 l = false) : pFrac l = some ([], l) := by
  cases l with
  | nil => rfl
  | cons b q => simp only [pFrac]; rw [if_neg (by simpa [hdC] using h)]
theorem pFrac_len {l f r : BL} (h : pFrac l = some (f, r)) : f.length + r.length ≤ l.length := by
  cases l with
  | nil => simp [pFrac] at h; obtain ⟨rfl, rfl⟩ := h; simp
  | cons b q =>
    simp only [pFrac] at h
    split at h
    · split at h
      · cases h
      · simp only [Option.some.injEq, Prod.mk.injEq] at h
        obtain ⟨rfl, rfl⟩ := h
        have := congrArg List.length (List.takeWhile_append_dropWhile (p := isD) (l := q))
        simp only [List.length_append, List.length_cons] at this ⊢; omega
    · simp only [Option.some.injEq, Prod.mk.injEq] at h
      obtain ⟨rfl, rfl⟩ := h
      simp
theorem pExp2 (b : UInt8) (q : BL) : (pExp (b :: q)).2 = ((decide (b.toNat = 101) || decide (b.toNat = 69)) && (!decide (strip 45 (strip 43 q) = []) && (decide (((strip 45 (strip 43 q)).takeWhile isD).length = (strip 45 (strip 43 q)).length) && !(hdC 43 q && decide (strip 45 (strip 43 q) ≠ strip 43 q))))) := by
  have h43 : decide (strip 43 q ≠ q) = hdC 43 q := by
    have := strip_ne_iff 43 q
    have e : (43 : UInt8).toNat = 43 := rfl
    rw [e] at this
    cases h : hdC 43 q with
    | true => exact decide_eq_true (this.2 h)
    | false => exact decide_eq_false (fun k => by rw [this.1 k] at h; cases h)
  have hn : (strip 45 (strip 43 q)).isEmpty = decide (strip 45 (strip 43 q) = []) := by cases strip 45 (strip 43 q) <;> rfl
  unfold pExp
  simp only [h43, hn]
theorem pExp3 (b : UInt8) (q : BL) : (pExp (b :: q)).2 = ((decide ((b.toNat : Int) = 101) || decide ((b.toNat : Int) = 69)) && (!decide (strip 45 (strip 43 q) = []) && (decide ((((strip 45 (strip 43 q)).takeWhile isD).length : Int) = ((ba (strip 45 (strip 43 q))).size : Int)) && !(hdC 43 q && decide (strip 45 (strip 43 q) ≠ strip 43 q))))) := by
  rw [pExp2]
  have e1 : decide ((b.toNat : Int) = 101) = decide (b.toNat = 101) := decide_eq_decide.2 (by omega)
  have e2 : decide ((b.toNat : Int) = 69) = decide (b.toNat = 69) := decide_eq_decide.2 (by omega)
  have e3 : decide ((((strip 45 (strip 43 q)).takeWhile isD).length : Int) = ((ba (strip 45 (strip 43 q))).size : Int)) = decide (((strip 45 (strip 43 q)).takeWhile isD).length = (strip 45 (strip 43 q)).length) := decide_eq_decide.2 (by rw [ba_size]; omega)
  rw [e1, e2, e3]
end Lg
set_option maxRecDepth 20000
set_option maxHeartbeats 4000000
namespace Lg
open Go Go.Proofs Go.RowKit
variable [GLay] 


theorem parts_c (l : BL) (σ : List AO) (hl : l.length ≤ 1000000) : ACalls Tryd.prog 18 [.str (ba l)] σ (Ret (.tup [.str (ba (pParts l).1), .str (ba (pParts l).2.1), .str (ba (pParts l).2.2.1), .bool (pParts l).2.2.2]) σ) := by
  refine ACalls_body Tryd.func18 rfl Tryd.ntmps18 (res4 Tryd.results18) (Nat.le_of_ble_eq_true rfl) (fun hcl hal => ?_)
  have hbs : (ba l).size = l.length := ba_size l
  have htl := (List.takeWhile_sublist (l := l) isD).length_le
  have htk := tw_take l
  have hdd := dropWhile_drop l
  refine AWp_seq ?_
  -- region 0 num.go:22
  refine AWp_regL ?_
  refine st rfl rfl rfl (op_assignO rfl rfl) ?_
  refine st rfl rfl rfl (op_assignO rfl rfl) ?_
  refine st rfl rfl rfl (op_assignO rfl rfl) ?_
  refine st rfl rfl rfl (op_assignO rfl rfl) ?_
  refine AOps_nil ?_
  refine AWp_seq ?_
  -- region 1 num.go:23
  refine AWp_regL ?_
  refine st rfl rfl rfl (op_moveO rfl rfl) ?_
  refine st rfl rfl rfl (op_callF rfl rfl rfl Tryd.func32 rfl rfl (pdig_c l _ hl)) ?_
  refine st rfl rfl rfl (op_assignO rfl rfl) ?_
  refine AOps_nil ?_
  refine AWp_join (ι := Unit) (fun b => ¬ ((l.takeWhile isD).length = 0 ∨ (1 < (l.takeWhile isD).length ∧ l.headD 0 = 48))) (fun b => ⟨[], [(0, .str (ba l)), (6, .int .i64 ((l.takeWhile isD).length : Int))]⟩) (fun b => σ) ?_ (fun b hj => ?_)
  · skip
    refine AWp_seq ?_
    -- region 2 num.go:24
    refine AWp_regL ?_
    refine st rfl rfl rfl (op_moveO rfl rfl) ?_
    refine st rfl rfl rfl (op_eql rfl rfl rfl) ?_
    refine st rfl rfl rfl (op_moveO rfl rfl) ?_
    refine AOps_split 17 rfl (fun h1 => ?_) (fun h1 => ?_)
    · rw [h1]; (try simp only [decide_eq_true_eq, decide_eq_false_iff_not, Bool.not_eq_true', Bool.not_eq_false', Int.not_lt, Int.not_le, Bool.not_true, Bool.not_false, Int.toNat_natCast, Int.toNat_zero, bne_iff_ne, beq_iff_eq, beq_eq_false_iff_ne, ne_eq, Decidable.not_not] at h1)
      refine stS rfl rfl rfl (.inl rfl) rfl rfl ?_
      refine stS rfl rfl rfl (.inl rfl) rfl rfl ?_
      refine stS rfl rfl rfl (.inl rfl) rfl rfl ?_
      refine stS rfl rfl rfl (.inr rfl) rfl rfl ?_
      refine stS rfl rfl rfl (.inr rfl) rfl rfl ?_
      refine stS rfl rfl rfl (.inr rfl) rfl rfl ?_
      refine stS rfl rfl rfl (.inl rfl) rfl rfl ?_
      refine st rfl rfl rfl (op_pickTO rfl rfl rfl) ?_
      refine AOps_nil ?_
      refine AWp_condT rfl ?_
      refine AWp_seq ?_
      -- region 3 num.go:25
      refine AWp_regL ?_
      refine st rfl rfl rfl (op_assignO rfl rfl) ?_
      refine st rfl rfl rfl (op_assignO rfl rfl) ?_
      refine st rfl rfl rfl (op_assignO rfl rfl) ?_
      refine st rfl rfl rfl (op_assignO rfl rfl) ?_
      refine AOps_nil ?_
      refine AWp_ret ?_
      (try simp only [blockQ, thenQ])
      refine ResQ_40 rfl rfl rfl rfl hcl (by simp [AV.lt, AV.ltL]) (Ret_of ?_)
      rw [pParts_no (.inl (by omega))]; rfl
    · rw [h1]; (try simp only [decide_eq_true_eq, decide_eq_false_iff_not, Bool.not_eq_true', Bool.not_eq_false', Int.not_lt, Int.not_le, Bool.not_true, Bool.not_false, Int.toNat_natCast, Int.toNat_zero, bne_iff_ne, beq_iff_eq, beq_eq_false_iff_ne, ne_eq, Decidable.not_not] at h1)
      refine stG rfl rfl rfl rfl rfl rfl (op_moveO rfl rfl) ?_
      refine stG rfl rfl rfl rfl rfl rfl (op_gtr rfl rfl rfl) ?_
      refine stG rfl rfl rfl rfl rfl rfl (op_moveO rfl rfl) ?_
      refine AOps_split 20 rfl (fun h2 => ?_) (fun h2 => ?_)
      · rw [h2]; (try simp only [decide_eq_true_eq, decide_eq_false_iff_not, Bool.not_eq_true', Bool.not_eq_false', Int.not_lt, Int.not_le, Bool.not_true, Bool.not_false, Int.toNat_natCast, Int.toNat_zero, bne_iff_ne, beq_iff_eq, beq_eq_false_iff_ne, ne_eq, Decidable.not_not] at h2)
        refine stG rfl rfl rfl rfl rfl rfl (op_moveO rfl rfl) ?_
        refine stG rfl rfl rfl rfl rfl rfl (op_index_strB rfl Tryd.underlying9 rfl rfl (by omega) (by omega)) ?_
        simp only [Int.toNat_zero]
        refine stG rfl rfl rfl rfl rfl rfl (op_eql rfl rfl rfl) ?_
        refine stG rfl rfl rfl rfl rfl rfl (op_pickTO rfl rfl rfl) ?_
        refine st rfl rfl rfl (op_pickFO rfl rfl rfl) ?_
        refine AOps_nil ?_
        refine AWp_cond rfl (fun h3 => ?_) (fun h3 => ?_)
        · (try rw [h3]); (try simp only [decide_eq_true_eq, decide_eq_false_iff_not, Bool.not_eq_true', Bool.not_eq_false', Int.not_lt, Int.not_le, Bool.not_true, Bool.not_false, Int.toNat_natCast, Int.toNat_zero, bne_iff_ne, beq_iff_eq, beq_eq_false_iff_ne, ne_eq, Decidable.not_not] at h3)
          refine AWp_seq ?_
          -- region 3 num.go:25
          refine AWp_regL ?_
          refine st rfl rfl rfl (op_assignO rfl rfl) ?_
          refine st rfl rfl rfl (op_assignO rfl rfl) ?_
          refine st rfl rfl rfl (op_assignO rfl rfl) ?_
          refine st rfl rfl rfl (op_assignO rfl rfl) ?_
          refine AOps_nil ?_
          refine AWp_ret ?_
          (try simp only [blockQ, thenQ])
          refine ResQ_40 rfl rfl rfl rfl hcl (by simp [AV.lt, AV.ltL]) (Ret_of ?_)
          rw [pParts_no (.inr ⟨by omega, (by rw [show l.headD 0 = bat (ba l) 0 by rw [bat_ba]; cases l <;> rfl]; exact UInt8.toNat_inj.1 (show _ = 48 by omega))⟩)]; rfl
        · (try rw [h3]); (try simp only [decide_eq_true_eq, decide_eq_false_iff_not, Bool.not_eq_true', Bool.not_eq_false', Int.not_lt, Int.not_le, Bool.not_true, Bool.not_false, Int.toNat_natCast, Int.toNat_zero, bne_iff_ne, beq_iff_eq, beq_eq_false_iff_ne, ne_eq, Decidable.not_not] at h3)
          refine AWp_skip ?_
          refine ⟨(), ?_, ⟨rfl, rfl, rfl, trivial⟩, rfl⟩
          rintro (h | ⟨h, hh⟩)
          · omega
          · rw [show l.headD 0 = bat (ba l) 0 by rw [bat_ba]; cases l <;> rfl] at hh
            rw [hh] at h3; exact h3 rfl
      · rw [h2]; (try simp only [decide_eq_true_eq, decide_eq_false_iff_not, Bool.not_eq_true', Bool.not_eq_false', Int.not_lt, Int.not_le, Bool.not_true, Bool.not_false, Int.toNat_natCast, Int.toNat_zero, bne_iff_ne, beq_iff_eq, beq_eq_false_iff_ne, ne_eq, Decidable.not_not] at h2)
        refine stS rfl rfl rfl (.inl rfl) rfl rfl ?_
        refine stS rfl rfl rfl (.inl rfl) rfl rfl ?_
        refine stS rfl rfl rfl (.inl rfl) rfl rfl ?_
        refine stG rfl rfl rfl rfl rfl rfl (op_pickFO rfl rfl rfl) ?_
        refine st rfl rfl rfl (op_pickFO rfl rfl rfl) ?_
        refine AOps_nil ?_
        refine AWp_condF rfl ?_
        refine AWp_skip ?_
        refine ⟨(), ?_, ⟨rfl, rfl, rfl, trivial⟩, rfl⟩
        rintro (h | ⟨h, hh⟩) <;> omega
  · skip
    have hj0 := hj
    refine AWp_seq ?_
    -- region 4 num.go:27 DRAWN
    refine AWp_drawL #[0, 0, 3, 0, 0, 24, 7, 127] Tryd.mixed (by decide +kernel) (by decide +kernel) ?_
    refine rA rfl rfl rfl rfl (fun _ => op_moveO rfl rfl) ?_
    refine rA rfl rfl rfl rfl (fun _ => op_moveO rfl rfl) ?_
    refine rA rfl rfl rfl rfl (fun _ => op_slice_str _ _ rfl Tryd.underlying9 rfl (by first | exact ⟨_, rfl⟩ | rfl) (by first | exact ⟨_, rfl⟩ | rfl) (by omega) (by omega) (by omega)) ?_
    simp only [Int.toNat_zero, Int.toNat_natCast, ba_pre, htk]
    refine rA rfl rfl rfl rfl (fun _ => op_moveO rfl rfl) ?_
    refine rA rfl rfl rfl rfl (fun _ => op_moveO rfl rfl) ?_
    refine rA rfl rfl rfl rfl (fun _ => op_slice_str _ _ rfl Tryd.underlying9 rfl (by first | exact ⟨_, rfl⟩ | rfl) (by first | exact ⟨_, rfl⟩ | rfl) (by omega) (by omega) (by omega)) ?_
    simp only [Int.toNat_natCast, ba_suf, ← hdd]
    refine rA rfl rfl rfl rfl (fun _ => op_assignO rfl rfl) ?_
    refine rA rfl rfl rfl rfl (fun _ => op_assignO rfl rfl) ?_
    refine RP.nil rfl ?_
    refine AWp_seq ?_
    -- region 5 num.go:28
    refine AWp_regL ?_
    refine st rfl rfl rfl (op_assignO rfl rfl) ?_
    refine AOps_nil ?_
    refine AWp_join (ι := BL × BL) (fun z => pFrac (l.dropWhile isD) = some z) (fun z => ⟨[], [(7, .str (ba (l.takeWhile isD))), (8, .str (ba z.2)), (9, .str (ba z.1))]⟩) (fun z => σ) ?_ (fun z hj => ?_)
    · skip
      refine AWp_seq ?_
      -- region 6 num.go:29
      refine AWp_regL ?_
      refine st rfl rfl rfl (op_moveO rfl rfl) ?_
      refine st rfl rfl rfl (op_callF rfl rfl rfl Tryd.func33 rfl rfl (tHasPre_c _ _ _ (by have := (List.dropWhile_suffix (l := l) isD).length_le; omega))) ?_
      refine AOps_nil ?_
      refine AWp_cond rfl (fun h4 => ?_) (fun h4 => ?_)
      · (try rw [h4]); (try simp only [decide_eq_true_eq, decide_eq_false_iff_not, Bool.not_eq_true', Bool.not_eq_false', Int.not_lt, Int.not_le, Bool.not_true, Bool.not_false, Int.toNat_natCast, Int.toNat_zero, bne_iff_ne, beq_iff_eq, beq_eq_false_iff_ne, ne_eq, Decidable.not_not] at h4)
        obtain ⟨b, q, hR, hb⟩ := hdC_true h4
        rw [hR] at hdd ⊢
        have hlq : q.length + 1 ≤ l.length := by have := (List.dropWhile_suffix (l := l) isD).length_le; rw [hR] at this; simpa using this
        have hbq : (ba (b :: q)).size = q.length + 1 := by rw [ba_size]; rfl
        have htq := (List.takeWhile_sublist (l := q) isD).length_le
        refine AWp_seq ?_
        -- region 7 num.go:30
        refine AWp_regL ?_
        refine st rfl rfl rfl (op_moveO rfl rfl) ?_
        refine st rfl rfl rfl (op_slice_str _ _ rfl Tryd.underlying9 rfl (by first | exact ⟨_, rfl⟩ | rfl) (by first | exact ⟨_, rfl⟩ | rfl) (by omega) (by omega) (by omega)) ?_
        simp only [Int.toNat_natCast, show (1 : Int).toNat = 1 from rfl, ba_suf1]
        refine st rfl rfl rfl (op_callF rfl rfl rfl Tryd.func32 rfl rfl (pdig_c q _ (by omega))) ?_
        refine st rfl rfl rfl (op_assignO rfl rfl) ?_
        refine AOps_nil ?_
        refine AWp_seq ?_
        refine AWp_seq ?_
        -- region 8 num.go:31
        refine AWp_regL ?_
        refine st rfl rfl rfl (op_moveO rfl rfl) ?_
        refine st rfl rfl rfl (op_eql rfl rfl rfl) ?_
        refine AOps_nil ?_
        refine AWp_cond rfl (fun h5 => ?_) (fun h5 => ?_)
        · (try rw [h5]); (try simp only [decide_eq_true_eq, decide_eq_false_iff_not, Bool.not_eq_true', Bool.not_eq_false', Int.not_lt, Int.not_le, Bool.not_true, Bool.not_false, Int.toNat_natCast, Int.toNat_zero, bne_iff_ne, beq_iff_eq, beq_eq_false_iff_ne, ne_eq, Decidable.not_not] at h5)
          refine AWp_seq ?_
          -- region 9 num.go:32
          refine AWp_regL ?_
          refine st rfl rfl rfl (op_assignO rfl rfl) ?_
          refine st rfl rfl rfl (op_assignO rfl rfl) ?_
          refine st rfl rfl rfl (op_assignO rfl rfl) ?_
          refine st rfl rfl rfl (op_assignO rfl rfl) ?_
          refine AOps_nil ?_
          refine AWp_ret ?_
          (try simp only [blockQ, thenQ])
          refine ResQ_40 rfl rfl rfl rfl hcl (by simp [AV.lt, AV.ltL]) (Ret_of ?_)
          rw [pParts_none hj (by rw [hR]; exact pFrac_bad hb (by omega))]; rfl
        · (try rw [h5]); (try simp only [decide_eq_true_eq, decide_eq_false_iff_not, Bool.not_eq_true', Bool.not_eq_false', Int.not_lt, Int.not_le, Bool.not_true, Bool.not_false, Int.toNat_natCast, Int.toNat_zero, bne_iff_ne, beq_iff_eq, beq_eq_false_iff_ne, ne_eq, Decidable.not_not] at h5)
          refine AWp_skip ?_
          -- region 10 num.go:34 DRAWN
          refine AWp_drawL #[0, 0, 2, 7, 0, 0, 32, 112, 15, 511] Tryd.mixed (by decide +kernel) (by decide +kernel) ?_
          refine rA rfl rfl rfl rfl (fun _ => op_moveO rfl rfl) ?_
          refine rA rfl rfl rfl rfl (fun _ => op_moveO rfl rfl) ?_
          refine rA rfl rfl rfl rfl (fun _ => op_add64 rfl rfl rfl (by omega) (by omega)) ?_
          refine rA rfl rfl rfl rfl (fun _ => op_slice_str _ _ rfl Tryd.underlying9 rfl (by first | exact ⟨_, rfl⟩ | rfl) (by first | exact ⟨_, rfl⟩ | rfl) (by omega) (by omega) (by omega)) ?_
          have e10 : ((1 : Int) + ((q.takeWhile isD).length : Int)).toNat = 1 + (q.takeWhile isD).length := by omega
          simp only [e10, show (1 : Int).toNat = 1 from rfl, ba_ex]
          rw [show (List.take (1 + (q.takeWhile isD).length) (b :: q)).drop 1 = q.takeWhile isD by rw [Nat.add_comm, List.take_succ_cons]; exact tw_take q]
          refine rA rfl rfl rfl rfl (fun _ => op_moveO rfl rfl) ?_
          refine rA rfl rfl rfl rfl (fun _ => op_moveO rfl rfl) ?_
          refine rA rfl rfl rfl rfl (fun _ => op_add64 rfl rfl rfl (by omega) (by omega)) ?_
          refine rA rfl rfl rfl rfl (fun _ => op_slice_str _ _ rfl Tryd.underlying9 rfl (by first | exact ⟨_, rfl⟩ | rfl) (by first | exact ⟨_, rfl⟩ | rfl) (by omega) (by omega) (by omega)) ?_
          simp only [e10, Int.toNat_natCast, ba_suf]
          rw [show (b :: q).drop (1 + (q.takeWhile isD).length) = q.dropWhile isD by rw [Nat.add_comm, List.drop_succ_cons]; exact (dropWhile_drop q).symm]
          refine rA rfl rfl rfl rfl (fun _ => op_assignO rfl rfl) ?_
          refine rA rfl rfl rfl rfl (fun _ => op_assignO rfl rfl) ?_
          refine RP.nil rfl ?_
          refine ⟨(q.takeWhile isD, q.dropWhile isD), pFrac_dot hb (by omega), ⟨rfl, rfl, rfl, rfl, trivial⟩, rfl⟩
      · (try rw [h4]); (try simp only [decide_eq_true_eq, decide_eq_false_iff_not, Bool.not_eq_true', Bool.not_eq_false', Int.not_lt, Int.not_le, Bool.not_true, Bool.not_false, Int.toNat_natCast, Int.toNat_zero, bne_iff_ne, beq_iff_eq, beq_eq_false_iff_ne, ne_eq, Decidable.not_not] at h4)
        refine AWp_skip ?_
        exact ⟨([], (l.dropWhile isD)), pFrac_not h4, ⟨rfl, rfl, rfl, rfl, trivial⟩, rfl⟩
    · skip
      obtain ⟨f, r⟩ := z
      simp only at hj ⊢
      have hjp := hj
      refine AWp_seq ?_
      refine AWp_seq ?_
      -- region 11 num.go:36
      refine AWp_regL ?_
      refine st rfl rfl rfl (op_moveO rfl rfl) ?_
      refine st rfl rfl rfl (op_seql rfl rfl rfl) ?_
      refine AOps_nil ?_
      refine AWp_cond rfl (fun h6 => ?_) (fun h6 => ?_)
      · (try rw [h6]); (try simp only [decide_eq_true_eq, decide_eq_false_iff_not, Bool.not_eq_true', Bool.not_eq_false', Int.not_lt, Int.not_le, Bool.not_true, Bool.not_false, Int.toNat_natCast, Int.toNat_zero, bne_iff_ne, beq_iff_eq, beq_eq_false_iff_ne, ne_eq, Decidable.not_not] at h6)
        have hr0 : r = [] := ba_inj.1 h6
        subst hr0
        refine AWp_seq ?_
        -- region 12 num.go:37
        refine AWp_regL ?_
        refine st rfl rfl rfl (op_moveO rfl rfl) ?_
        refine st rfl rfl rfl (op_moveO rfl rfl) ?_
        refine st rfl rfl rfl (op_assignO rfl rfl) ?_
        refine st rfl rfl rfl (op_assignO rfl rfl) ?_
        refine st rfl rfl rfl (op_assignO rfl rfl) ?_
        refine st rfl rfl rfl (op_assignO rfl rfl) ?_
        refine AOps_nil ?_
        refine AWp_ret ?_
        (try simp only [blockQ, thenQ])
        refine ResQ_40 rfl rfl rfl rfl hcl (by simp [AV.lt, AV.ltL]) (Ret_of ?_)
        rw [pParts_some hj0 hj]; rfl
      · (try rw [h6]); (try simp only [decide_eq_true_eq, decide_eq_false_iff_not, Bool.not_eq_true', Bool.not_eq_false', Int.not_lt, Int.not_le, Bool.not_true, Bool.not_false, Int.toNat_natCast, Int.toNat_zero, bne_iff_ne, beq_iff_eq, beq_eq_false_iff_ne, ne_eq, Decidable.not_not] at h6)
        obtain ⟨b, q, rfl⟩ : ∃ b q, r = b :: q := by cases r with | nil => exact absurd rfl h6 | cons b q => exact ⟨b, q, rfl⟩
        have hlq : q.length + 1 ≤ l.length := by have := pFrac_len hj; have := (List.dropWhile_suffix (l := l) isD).length_le; simp only [List.length_cons] at *; omega
        have hs1 := strip_len 43 q
        have hs2 := strip_len 45 (strip 43 q)
        have hbq : (ba (b :: q)).size = q.length + 1 := by rw [ba_size]; rfl
        refine AWp_skip ?_
        refine AWp_seq ?_
        -- region 13 num.go:39
        refine AWp_regL ?_
        refine st rfl rfl rfl (op_moveO rfl rfl) ?_
        refine st rfl rfl rfl (op_slice_str _ _ rfl Tryd.underlying9 rfl (by first | exact ⟨_, rfl⟩ | rfl) (by first | exact ⟨_, rfl⟩ | rfl) (by omega) (by omega) (by omega)) ?_
        simp only [Int.toNat_natCast, show (1 : Int).toNat = 1 from rfl, ba_suf1]
        refine st rfl rfl rfl (op_assignO rfl rfl) ?_
        refine AOps_nil ?_
        refine AWp_join (ι := Unit) (fun w => True) (fun w => ⟨[], [(7, .str (ba (l.takeWhile isD))), (8, .str (ba (b :: q))), (9, .str (ba f)), (10, .str (ba (strip 43 q)))]⟩) (fun w => σ) ?_ (fun w hj => ?_)
        · skip
          refine AWp_seq ?_
          -- region 14 num.go:40
          refine AWp_regL ?_
          refine st rfl rfl rfl (op_moveO rfl rfl) ?_
          refine st rfl rfl rfl (op_callF rfl rfl rfl Tryd.func33 rfl rfl (tHasPre_c q 43 _ (by omega))) ?_
          refine AOps_nil ?_
          refine AWp_cond rfl (fun h7 => ?_) (fun h7 => ?_)
          · (try rw [h7]); (try simp only [decide_eq_true_eq, decide_eq_false_iff_not, Bool.not_eq_true', Bool.not_eq_false', Int.not_lt, Int.not_le, Bool.not_true, Bool.not_false, Int.toNat_natCast, Int.toNat_zero, bne_iff_ne, beq_iff_eq, beq_eq_false_iff_ne, ne_eq, Decidable.not_not] at h7)
            obtain ⟨c43, q2, hq2, hb43⟩ := hdC_true h7
            have hst : strip 43 q = q2 := by rw [hq2]; exact strip_eq hb43
            have hbq2 : (ba q).size = q2.length + 1 := by rw [ba_size, hq2]; rfl
            rw [hst, hq2] at *
            -- region 15 num.go:41
            refine AWp_regL ?_
            refine st rfl rfl rfl (op_moveO rfl rfl) ?_
            refine st rfl rfl rfl (op_slice_str _ _ rfl Tryd.underlying9 rfl (by first | exact ⟨_, rfl⟩ | rfl) (by first | exact ⟨_, rfl⟩ | rfl) (by omega) (by omega) (by omega)) ?_
            simp only [Int.toNat_natCast, show (1 : Int).toNat = 1 from rfl, ba_suf1]
            refine st rfl rfl rfl (op_assignO rfl rfl) ?_
            refine AOps_nil ?_
            exact ⟨(), trivial, ⟨rfl, rfl, rfl, rfl, rfl, trivial⟩, rfl⟩
          · (try rw [h7]); (try simp only [decide_eq_true_eq, decide_eq_false_iff_not, Bool.not_eq_true', Bool.not_eq_false', Int.not_lt, Int.not_le, Bool.not_true, Bool.not_false, Int.toNat_natCast, Int.toNat_zero, bne_iff_ne, beq_iff_eq, beq_eq_false_iff_ne, ne_eq, Decidable.not_not] at h7)
            refine AWp_skip ?_
            have hst := hdC_strip h7
            refine ⟨(), trivial, ⟨rfl, rfl, rfl, rfl, ?_, trivial⟩, rfl⟩
            rw [show strip 43 q = q from hst]; rfl
        · skip
          refine AWp_seq ?_
          -- region 16 num.go:43
          refine AWp_regL ?_
          refine st rfl rfl rfl (op_moveO rfl rfl) ?_
          refine st rfl rfl rfl (op_callF rfl rfl rfl Tryd.func17 rfl rfl (tTrimPre_c (strip 43 q) 45 _ (by omega))) ?_
          refine st rfl rfl rfl (op_assignO rfl rfl) ?_
          refine AOps_nil ?_
          refine AWp_join (ι := Unit) (fun w => True) (fun w => ⟨[], [(7, .str (ba (l.takeWhile isD))), (9, .str (ba f)), (10, .str (ba (strip 43 q))), (12, .bool (pExp (b :: q)).2)]⟩) (fun w => σ) ?_ (fun w hj => ?_)
          · skip
            -- region 17 num.go:44
            refine AWp_regL ?_
            refine st rfl rfl rfl (op_moveO rfl rfl) ?_
            refine st rfl rfl rfl (op_index_strB rfl Tryd.underlying9 rfl rfl (by omega) (by omega)) ?_
            simp only [Int.toNat_zero, bat0]
            refine st rfl rfl rfl (op_eql rfl rfl rfl) ?_
            refine st rfl rfl rfl (op_moveO rfl rfl) ?_
            refine AOps_split 62 rfl (fun h8 => ?_) (fun h8 => ?_)
            · rw [h8]; (try simp only [decide_eq_true_eq, decide_eq_false_iff_not, Bool.not_eq_true', Bool.not_eq_false', Int.not_lt, Int.not_le, Bool.not_true, Bool.not_false, Int.toNat_natCast, Int.toNat_zero, bne_iff_ne, beq_iff_eq, beq_eq_false_iff_ne, ne_eq, Decidable.not_not] at h8)
              refine stS rfl rfl rfl (.inl rfl) rfl rfl ?_
              refine stS rfl rfl rfl (.inl rfl) rfl rfl ?_
              refine stS rfl rfl rfl (.inl rfl) rfl rfl ?_
              refine st rfl rfl rfl (op_pickTO rfl rfl rfl) ?_
              refine st rfl rfl rfl (op_moveO rfl rfl) ?_
              refine stG rfl rfl rfl rfl rfl rfl (op_moveO rfl rfl) ?_
              refine stG rfl rfl rfl rfl rfl rfl (op_sneq rfl rfl rfl) ?_
              refine st rfl rfl rfl (op_pickTO rfl rfl rfl) ?_
              refine st rfl rfl rfl (op_moveO rfl rfl) ?_
              refine AOps_split 71 rfl (fun h9 => ?_) (fun h9 => ?_)
              · rw [h9]; (try simp only [decide_eq_true_eq, decide_eq_false_iff_not, Bool.not_eq_true', Bool.not_eq_false', Int.not_lt, Int.not_le, Bool.not_true, Bool.not_false, Int.toNat_natCast, Int.toNat_zero, bne_iff_ne, beq_iff_eq, beq_eq_false_iff_ne, ne_eq, Decidable.not_not] at h9)
                refine stG rfl rfl rfl rfl rfl rfl (op_moveO rfl rfl) ?_
                refine stG rfl rfl rfl rfl rfl rfl (op_callF rfl rfl rfl Tryd.func32 rfl rfl (pdig_c (strip 45 (strip 43 q)) _ (by omega))) ?_
                refine stG rfl rfl rfl rfl rfl rfl (op_moveO rfl rfl) ?_
                refine stG rfl rfl rfl rfl rfl rfl (op_lenStr rfl rfl Tryd.underlying9 rfl) ?_
                refine stG rfl rfl rfl rfl rfl rfl (op_eql rfl rfl rfl) ?_
                refine st rfl rfl rfl (op_pickTO rfl rfl rfl) ?_
                refine st rfl rfl rfl (op_moveO rfl rfl) ?_
                refine AOps_split 78 rfl (fun h10 => ?_) (fun h10 => ?_)
                · rw [h10]; (try simp only [decide_eq_true_eq, decide_eq_false_iff_not, Bool.not_eq_true', Bool.not_eq_false', Int.not_lt, Int.not_le, Bool.not_true, Bool.not_false, Int.toNat_natCast, Int.toNat_zero, bne_iff_ne, beq_iff_eq, beq_eq_false_iff_ne, ne_eq, Decidable.not_not] at h10)
                  refine stG rfl rfl rfl rfl rfl rfl (op_moveO rfl rfl) ?_
                  refine stG rfl rfl rfl rfl rfl rfl (op_slice_str _ _ rfl Tryd.underlying9 rfl (by first | exact ⟨_, rfl⟩ | rfl) (by first | exact ⟨_, rfl⟩ | rfl) (by omega) (by omega) (by omega)) ?_
                  simp only [Int.toNat_natCast, show (1 : Int).toNat = 1 from rfl, ba_suf1]
                  refine stG rfl rfl rfl rfl rfl rfl (op_callF rfl rfl rfl Tryd.func33 rfl rfl (tHasPre_c q 43 _ (by omega))) ?_
                  refine stG rfl rfl rfl rfl rfl rfl (op_moveO rfl rfl) ?_
                  refine AOps_split 82 rfl (fun h11 => ?_) (fun h11 => ?_)
                  · rw [h11]; (try simp only [decide_eq_true_eq, decide_eq_false_iff_not, Bool.not_eq_true', Bool.not_eq_false', Int.not_lt, Int.not_le, Bool.not_true, Bool.not_false, Int.toNat_natCast, Int.toNat_zero, bne_iff_ne, beq_iff_eq, beq_eq_false_iff_ne, ne_eq, Decidable.not_not] at h11)
                    refine stG rfl rfl rfl rfl rfl rfl (op_moveO rfl rfl) ?_
                    refine stG rfl rfl rfl rfl rfl rfl (op_moveO rfl rfl) ?_
                    refine stG rfl rfl rfl rfl rfl rfl (op_sneq rfl rfl rfl) ?_
                    refine stG rfl rfl rfl rfl rfl rfl (op_pickTO rfl rfl rfl) ?_
                    refine stG rfl rfl rfl rfl rfl rfl (op_not rfl rfl) ?_
                    refine st rfl rfl rfl (op_pickTO rfl rfl rfl) ?_
                    refine st rfl rfl rfl (op_assignO rfl rfl) ?_
                    refine AOps_nil ?_
                    refine ⟨(), trivial, ⟨rfl, rfl, rfl, rfl, ?_, trivial⟩, rfl⟩
                    rw [pExp3]
                    refine congrArg AV.bool ?_
                    clear hj hj0 hjp hdd htk htl
                    simp_all [ba_inj, ba_nil]
                  · rw [h11]; (try simp only [decide_eq_true_eq, decide_eq_false_iff_not, Bool.not_eq_true', Bool.not_eq_false', Int.not_lt, Int.not_le, Bool.not_true, Bool.not_false, Int.toNat_natCast, Int.toNat_zero, bne_iff_ne, beq_iff_eq, beq_eq_false_iff_ne, ne_eq, Decidable.not_not] at h11)
                    refine stS rfl rfl rfl (.inl rfl) rfl rfl ?_
                    refine stS rfl rfl rfl (.inl rfl) rfl rfl ?_
                    refine stS rfl rfl rfl (.inl rfl) rfl rfl ?_
                    refine stG rfl rfl rfl rfl rfl rfl (op_pickFO rfl rfl rfl) ?_
                    refine stG rfl rfl rfl rfl rfl rfl (op_not rfl rfl) ?_
                    refine st rfl rfl rfl (op_pickTO rfl rfl rfl) ?_
                    refine st rfl rfl rfl (op_assignO rfl rfl) ?_
                    refine AOps_nil ?_
                    refine ⟨(), trivial, ⟨rfl, rfl, rfl, rfl, ?_, trivial⟩, rfl⟩
                    rw [pExp3]
                    refine congrArg AV.bool ?_
                    clear hj hj0 hjp hdd htk htl
                    simp_all [ba_inj, ba_nil]
                · rw [h10]; (try simp only [decide_eq_true_eq, decide_eq_false_iff_not, Bool.not_eq_true', Bool.not_eq_false', Int.not_lt, Int.not_le, Bool.not_true, Bool.not_false, Int.toNat_natCast, Int.toNat_zero, bne_iff_ne, beq_iff_eq, beq_eq_false_iff_ne, ne_eq, Decidable.not_not] at h10)
                  refine stS rfl rfl rfl (.inl rfl) rfl rfl ?_
                  refine stS rfl rfl rfl (.inl rfl) rfl rfl ?_
                  refine stS rfl rfl rfl (.inl rfl) rfl rfl ?_
                  refine stS rfl rfl rfl (.inl rfl) rfl rfl ?_
                  refine stS rfl rfl rfl (.inr rfl) rfl rfl ?_
                  refine stS rfl rfl rfl (.inr rfl) rfl rfl ?_
                  refine stS rfl rfl rfl (.inr rfl) rfl rfl ?_
                  refine stS rfl rfl rfl (.inl rfl) rfl rfl ?_
                  refine stS rfl rfl rfl (.inl rfl) rfl rfl ?_
                  refine st rfl rfl rfl (op_pickFO rfl rfl rfl) ?_
                  refine st rfl rfl rfl (op_assignO rfl rfl) ?_
                  refine AOps_nil ?_
                  refine ⟨(), trivial, ⟨rfl, rfl, rfl, rfl, ?_, trivial⟩, rfl⟩
                  rw [pExp3]
                  refine congrArg AV.bool ?_
                  clear hj hj0 hjp hdd htk htl
                  simp_all [ba_inj, ba_nil]
              · rw [h9]; (try simp only [decide_eq_true_eq, decide_eq_false_iff_not, Bool.not_eq_true', Bool.not_eq_false', Int.not_lt, Int.not_le, Bool.not_true, Bool.not_false, Int.toNat_natCast, Int.toNat_zero, bne_iff_ne, beq_iff_eq, beq_eq_false_iff_ne, ne_eq, Decidable.not_not] at h9)
                refine stS rfl rfl rfl (.inl rfl) rfl rfl ?_
                refine stS rfl rfl rfl (.inl rfl) rfl rfl ?_
                refine stS rfl rfl rfl (.inl rfl) rfl rfl ?_
                refine stS rfl rfl rfl (.inl rfl) rfl rfl ?_
                refine stS rfl rfl rfl (.inl rfl) rfl rfl ?_
                refine st rfl rfl rfl (op_pickFO rfl rfl rfl) ?_
                refine st rfl rfl rfl (op_moveO rfl rfl) ?_
                refine stS rfl rfl rfl (.inl rfl) rfl rfl ?_
                refine stS rfl rfl rfl (.inl rfl) rfl rfl ?_
                refine stS rfl rfl rfl (.inl rfl) rfl rfl ?_
                refine stS rfl rfl rfl (.inl rfl) rfl rfl ?_
                refine stS rfl rfl rfl (.inr rfl) rfl rfl ?_
                refine stS rfl rfl rfl (.inr rfl) rfl rfl ?_
                refine stS rfl rfl rfl (.inr rfl) rfl rfl ?_
                refine stS rfl rfl rfl (.inl rfl) rfl rfl ?_
                refine stS rfl rfl rfl (.inl rfl) rfl rfl ?_
                refine st rfl rfl rfl (op_pickFO rfl rfl rfl) ?_
                refine st rfl rfl rfl (op_assignO rfl rfl) ?_
                refine AOps_nil ?_
                refine ⟨(), trivial, ⟨rfl, rfl, rfl, rfl, ?_, trivial⟩, rfl⟩
                rw [pExp3]
                refine congrArg AV.bool ?_
                clear hj hj0 hjp hdd htk htl
                simp_all [ba_inj, ba_nil]
            · rw [h8]; (try simp only [decide_eq_true_eq, decide_eq_false_iff_not, Bool.not_eq_true', Bool.not_eq_false', Int.not_lt, Int.not_le, Bool.not_true, Bool.not_false, Int.toNat_natCast, Int.toNat_zero, bne_iff_ne, beq_iff_eq, beq_eq_false_iff_ne, ne_eq, Decidable.not_not] at h8)
              refine stG rfl rfl rfl rfl rfl rfl (op_moveO rfl rfl) ?_
              refine stG rfl rfl rfl rfl rfl rfl (op_index_strB rfl Tryd.underlying9 rfl rfl (by omega) (by omega)) ?_
              simp only [Int.toNat_zero, bat0]
              refine stG rfl rfl rfl rfl rfl rfl (op_eql rfl rfl rfl) ?_
              refine st rfl rfl rfl (op_pickFO rfl rfl rfl) ?_
              refine st rfl rfl rfl (op_moveO rfl rfl) ?_
              refine AOps_split 67 rfl (fun h12 => ?_) (fun h12 => ?_)
              · rw [h12]; (try simp only [decide_eq_true_eq, decide_eq_false_iff_not, Bool.not_eq_true', Bool.not_eq_false', Int.not_lt, Int.not_le, Bool.not_true, Bool.not_false, Int.toNat_natCast, Int.toNat_zero, bne_iff_ne, beq_iff_eq, beq_eq_false_iff_ne, ne_eq, Decidable.not_not] at h12)
                refine stG rfl rfl rfl rfl rfl rfl (op_moveO rfl rfl) ?_
                refine stG rfl rfl rfl rfl rfl rfl (op_sneq rfl rfl rfl) ?_
                refine st rfl rfl rfl (op_pickTO rfl rfl rfl) ?_
                refine st rfl rfl rfl (op_moveO rfl rfl) ?_
                refine AOps_split 71 rfl (fun h13 => ?_) (fun h13 => ?_)
                · rw [h13]; (try simp only [decide_eq_true_eq, decide_eq_false_iff_not, Bool.not_eq_true', Bool.not_eq_false', Int.not_lt, Int.not_le, Bool.not_true, Bool.not_false, Int.toNat_natCast, Int.toNat_zero, bne_iff_ne, beq_iff_eq, beq_eq_false_iff_ne, ne_eq, Decidable.not_not] at h13)
                  refine stG rfl rfl rfl rfl rfl rfl (op_moveO rfl rfl) ?_
                  refine stG rfl rfl rfl rfl rfl rfl (op_callF rfl rfl rfl Tryd.func32 rfl rfl (pdig_c (strip 45 (strip 43 q)) _ (by omega))) ?_
                  refine stG rfl rfl rfl rfl rfl rfl (op_moveO rfl rfl) ?_
                  refine stG rfl rfl rfl rfl rfl rfl (op_lenStr rfl rfl Tryd.underlying9 rfl) ?_
                  refine stG rfl rfl rfl rfl rfl rfl (op_eql rfl rfl rfl) ?_
                  refine st rfl rfl rfl (op_pickTO rfl rfl rfl) ?_
                  refine st rfl rfl rfl (op_moveO rfl rfl) ?_
                  refine AOps_split 78 rfl (fun h14 => ?_) (fun h14 => ?_)
                  · rw [h14]; (try simp only [decide_eq_true_eq, decide_eq_false_iff_not, Bool.not_eq_true', Bool.not_eq_false', Int.not_lt, Int.not_le, Bool.not_true, Bool.not_false, Int.toNat_natCast, Int.toNat_zero, bne_iff_ne, beq_iff_eq, beq_eq_false_iff_ne, ne_eq, Decidable.not_not] at h14)
                    refine stG rfl rfl rfl rfl rfl rfl (op_moveO rfl rfl) ?_
                    refine stG rfl rfl rfl rfl rfl rfl (op_slice_str _ _ rfl Tryd.underlying9 rfl (by first | exact ⟨_, rfl⟩ | rfl) (by first | exact ⟨_, rfl⟩ | rfl) (by omega) (by omega) (by omega)) ?_
                    simp only [Int.toNat_natCast, show (1 : Int).toNat = 1 from rfl, ba_suf1]
                    refine stG rfl rfl rfl rfl rfl rfl (op_callF rfl rfl rfl Tryd.func33 rfl rfl (tHasPre_c q 43 _ (by omega))) ?_
                    refine stG rfl rfl rfl rfl rfl rfl (op_moveO rfl rfl) ?_
                    refine AOps_split 82 rfl (fun h15 => ?_) (fun h15 => ?_)
                    · rw [h15]; (try simp only [decide_eq_true_eq, decide_eq_false_iff_not, Bool.not_eq_true', Bool.not_eq_false', Int.not_lt, Int.not_le, Bool.not_true, Bool.not_false, Int.toNat_natCast, Int.toNat_zero, bne_iff_ne, beq_iff_eq, beq_eq_false_iff_ne, ne_eq, Decidable.not_not] at h15)
                      refine stG rfl rfl rfl rfl rfl rfl (op_moveO rfl rfl) ?_
                      refine stG rfl rfl rfl rfl rfl rfl (op_moveO rfl rfl) ?_
                      refine stG rfl rfl rfl rfl rfl rfl (op_sneq rfl rfl rfl) ?_
                      refine stG rfl rfl rfl rfl rfl rfl (op_pickTO rfl rfl rfl) ?_
                      refine stG rfl rfl rfl rfl rfl rfl (op_not rfl rfl) ?_
                      refine st rfl rfl rfl (op_pickTO rfl rfl rfl) ?_
                      refine st rfl rfl rfl (op_assignO rfl rfl) ?_
                      refine AOps_nil ?_
                      refine ⟨(), trivial, ⟨rfl, rfl, rfl, rfl, ?_, trivial⟩, rfl⟩
                      rw [pExp3]
                      refine congrArg AV.bool ?_
                      clear hj hj0 hjp hdd htk htl
                      simp_all [ba_inj, ba_nil]
                    · rw [h15]; (try simp only [decide_eq_true_eq, decide_eq_false_iff_not, Bool.not_eq_true', Bool.not_eq_false', Int.not_lt, Int.not_le, Bool.not_true, Bool.not_false, Int.toNat_natCast, Int.toNat_zero, bne_iff_ne, beq_iff_eq, beq_eq_false_iff_ne, ne_eq, Decidable.not_not] at h15)
                      refine stS rfl rfl rfl (.inl rfl) rfl rfl ?_
                      refine stS rfl rfl rfl (.inl rfl) rfl rfl ?_
                      refine stS rfl rfl rfl (.inl rfl) rfl rfl ?_
                      refine stG rfl rfl rfl rfl rfl rfl (op_pickFO rfl rfl rfl) ?_
                      refine stG rfl rfl rfl rfl rfl rfl (op_not rfl rfl) ?_
                      refine st rfl rfl rfl (op_pickTO rfl rfl rfl) ?_
                      refine st rfl rfl rfl (op_assignO rfl rfl) ?_
                      refine AOps_nil ?_
                      refine ⟨(), trivial, ⟨rfl, rfl, rfl, rfl, ?_, trivial⟩, rfl⟩
                      rw [pExp3]
                      refine congrArg AV.bool ?_
                      clear hj hj0 hjp hdd htk htl
                      simp_all [ba_inj, ba_nil]
                  · rw [h14]; (try simp only [decide_eq_true_eq, decide_eq_false_iff_not, Bool.not_eq_true', Bool.not_eq_false', Int.not_lt, Int.not_le, Bool.not_true, Bool.not_false, Int.toNat_natCast, Int.toNat_zero, bne_iff_ne, beq_iff_eq, beq_eq_false_iff_ne, ne_eq, Decidable.not_not] at h14)
                    refine stS rfl rfl rfl (.inl rfl) rfl rfl ?_
                    refine stS rfl rfl rfl (.inl rfl) rfl rfl ?_
                    refine stS rfl rfl rfl (.inl rfl) rfl rfl ?_
                    refine stS rfl rfl rfl (.inl rfl) rfl rfl ?_
                    refine stS rfl rfl rfl (.inr rfl) rfl rfl ?_
                    refine stS rfl rfl rfl (.inr rfl) rfl rfl ?_
                    refine stS rfl rfl rfl (.inr rfl) rfl rfl ?_
                    refine stS rfl rfl rfl (.inl rfl) rfl rfl ?_
                    refine stS rfl rfl rfl (.inl rfl) rfl rfl ?_
                    refine st rfl rfl rfl (op_pickFO rfl rfl rfl) ?_
                    refine st rfl rfl rfl (op_assignO rfl rfl) ?_
                    refine AOps_nil ?_
                    refine ⟨(), trivial, ⟨rfl, rfl, rfl, rfl, ?_, trivial⟩, rfl⟩
                    rw [pExp3]
                    refine congrArg AV.bool ?_
                    clear hj hj0 hjp hdd htk htl
                    simp_all [ba_inj, ba_nil]
                · rw [h13]; (try simp only [decide_eq_true_eq, decide_eq_false_iff_not, Bool.not_eq_true', Bool.not_eq_false', Int.not_lt, Int.not_le, Bool.not_true, Bool.not_false, Int.toNat_natCast, Int.toNat_zero, bne_iff_ne, beq_iff_eq, beq_eq_false_iff_ne, ne_eq, Decidable.not_not] at h13)
                  refine stS rfl rfl rfl (.inl rfl) rfl rfl ?_
                  refine stS rfl rfl rfl (.inl rfl) rfl rfl ?_
                  refine stS rfl rfl rfl (.inl rfl) rfl rfl ?_
                  refine stS rfl rfl rfl (.inl rfl) rfl rfl ?_
                  refine stS rfl rfl rfl (.inl rfl) rfl rfl ?_
                  refine st rfl rfl rfl (op_pickFO rfl rfl rfl) ?_
                  refine st rfl rfl rfl (op_moveO rfl rfl) ?_
                  refine stS rfl rfl rfl (.inl rfl) rfl rfl ?_
                  refine stS rfl rfl rfl (.inl rfl) rfl rfl ?_
                  refine stS rfl rfl rfl (.inl rfl) rfl rfl ?_
                  refine stS rfl rfl rfl (.inl rfl) rfl rfl ?_
                  refine stS rfl rfl rfl (.inr rfl) rfl rfl ?_
                  refine stS rfl rfl rfl (.inr rfl) rfl rfl ?_
                  refine stS rfl rfl rfl (.inr rfl) rfl rfl ?_
                  refine stS rfl rfl rfl (.inl rfl) rfl rfl ?_
                  refine stS rfl rfl rfl (.inl rfl) rfl rfl ?_
                  refine st rfl rfl rfl (op_pickFO rfl rfl rfl) ?_
                  refine st rfl rfl rfl (op_assignO rfl rfl) ?_
                  refine AOps_nil ?_
                  refine ⟨(), trivial, ⟨rfl, rfl, rfl, rfl, ?_, trivial⟩, rfl⟩
                  rw [pExp3]
                  refine congrArg AV.bool ?_
                  clear hj hj0 hjp hdd htk htl
                  simp_all [ba_inj, ba_nil]
              · rw [h12]; (try simp only [decide_eq_true_eq, decide_eq_false_iff_not, Bool.not_eq_true', Bool.not_eq_false', Int.not_lt, Int.not_le, Bool.not_true, Bool.not_false, Int.toNat_natCast, Int.toNat_zero, bne_iff_ne, beq_iff_eq, beq_eq_false_iff_ne, ne_eq, Decidable.not_not] at h12)
                refine stS rfl rfl rfl (.inl rfl) rfl rfl ?_
                refine stS rfl rfl rfl (.inl rfl) rfl rfl ?_
                refine st rfl rfl rfl (op_pickFO rfl rfl rfl) ?_
                refine st rfl rfl rfl (op_moveO rfl rfl) ?_
                refine stS rfl rfl rfl (.inl rfl) rfl rfl ?_
                refine stS rfl rfl rfl (.inl rfl) rfl rfl ?_
                refine stS rfl rfl rfl (.inl rfl) rfl rfl ?_
                refine stS rfl rfl rfl (.inl rfl) rfl rfl ?_
                refine stS rfl rfl rfl (.inl rfl) rfl rfl ?_
                refine st rfl rfl rfl (op_pickFO rfl rfl rfl) ?_
                refine st rfl rfl rfl (op_moveO rfl rfl) ?_
                refine stS rfl rfl rfl (.inl rfl) rfl rfl ?_
                refine stS rfl rfl rfl (.inl rfl) rfl rfl ?_
                refine stS rfl rfl rfl (.inl rfl) rfl rfl ?_
                refine stS rfl rfl rfl (.inl rfl) rfl rfl ?_
                refine stS rfl rfl rfl (.inr rfl) rfl rfl ?_
                refine stS rfl rfl rfl (.inr rfl) rfl rfl ?_
                refine stS rfl rfl rfl (.inr rfl) rfl rfl ?_
                refine stS rfl rfl rfl (.inl rfl) rfl rfl ?_
                refine stS rfl rfl rfl (.inl rfl) rfl rfl ?_
                refine st rfl rfl rfl (op_pickFO rfl rfl rfl) ?_
                refine st rfl rfl rfl (op_assignO rfl rfl) ?_
                refine AOps_nil ?_
                refine ⟨(), trivial, ⟨rfl, rfl, rfl, rfl, ?_, trivial⟩, rfl⟩
                rw [pExp3]
                refine congrArg AV.bool ?_
                clear hj hj0 hjp hdd htk htl
                simp_all [ba_inj, ba_nil]
          · skip
            refine AWp_seq ?_
            -- region 18 num.go:45
            refine AWp_regL ?_
            refine st rfl rfl rfl (op_moveO rfl rfl) ?_
            refine st rfl rfl rfl (op_moveO rfl rfl) ?_
            refine st rfl rfl rfl (op_moveO rfl rfl) ?_
            refine st rfl rfl rfl (op_moveO rfl rfl) ?_
            refine st rfl rfl rfl (op_assignO rfl rfl) ?_
            refine st rfl rfl rfl (op_assignO rfl rfl) ?_
            refine st rfl rfl rfl (op_assignO rfl rfl) ?_
            refine st rfl rfl rfl (op_assignO rfl rfl) ?_
            refine AOps_nil ?_
            refine AWp_ret ?_
            (try simp only [blockQ, thenQ])
            refine ResQ_40 rfl rfl rfl rfl hcl (by simp [AV.lt, AV.ltL]) (Ret_of ?_)
            rw [pParts_some hj0 hjp]; rfl

end Lg
namespace Lg
open Go
theorem valL_nat : ∀ (l : BL) (v : Nat), aD l → Lib.decFrom v l = some (valL v l).toNat ∧ 0 ≤ valL v l ∧ valL v l < ((v : Int) + 1) * 10 ^ l.length
  | [], v, _ => ⟨by simp [Lib.decFrom, valL], by simp [valL], by simp [valL]; omega⟩
  | b :: l, v, h => by
    obtain ⟨hb, hl⟩ := aD_cons h
    have hd : Lib.digitVal b = some (b.toNat - 48) := by unfold Lib.digitVal; rw [if_pos hb]
    have hv : valL v (b :: l) = valL ((v * 10 + (b.toNat - 48) : Nat) : Int) l := by
      show valL (10 * (v : Int) + (b.toNat : Int) - 48) l = _
      congr 1; omega
    obtain ⟨h1, h2, h3⟩ := valL_nat l (v * 10 + (b.toNat - 48)) hl
    rw [hv]
    refine ⟨?_, h2, ?_⟩
    · simp only [Lib.decFrom, hd]; exact h1
    · refine Int.lt_of_lt_of_le h3 ?_
      rw [List.length_cons, Int.pow_succ, Int.mul_comm (10 ^ l.length) 10, ← Int.mul_assoc]
      exact Int.mul_le_mul_of_nonneg_right (by omega) (Int.pow_nonneg (by omega))
theorem atoi_val {l : BL} (h : aD l) : Lib.atoi (48 :: l) = some (valL 0 l) := by
  have hd : aD (48 :: l) := fun b hb => by
    rcases List.mem_cons.1 hb with rfl | hb
    · rfl
    · exact h b hb
  obtain ⟨h1, h2, _⟩ := valL_nat (48 :: l) 0 hd
  have e : valL ((0 : Nat) : Int) (48 :: l) = valL 0 l := rfl
  rw [e] at h1 h2
  have e2 : Lib.atoi (48 :: l) = (Lib.decFrom 0 (48 :: l)).map fun (m : Nat) => (m : Int) := rfl
  rw [e2, h1]
  simp only [Option.map_some, Option.some.injEq]
  omega
def smallI (e : BL) : Int := if hd45 e = true then -smallN (strip 45 e) else smallN (strip 45 e)
theorem smallN_bnd {x : BL} (h : aD x) : 0 ≤ smallN x ∧ smallN x ≤ 1000000000000000 := by
  unfold smallN
  split
  · rename_i hl
    obtain ⟨_, h2, h3⟩ := valL_nat (x.dropWhile (· == 48)) 0 (aD_dw h)
    refine ⟨h2, ?_⟩
    have hp : (10 : Int) ^ (x.dropWhile (· == 48)).length ≤ 10 ^ 15 := by
      have := Nat.pow_le_pow_right (n := 10) (by omega) (show (x.dropWhile (· == 48)).length ≤ 15 by omega)
      exact_mod_cast this
    have : (((0 : Nat) : Int) + 1) * 10 ^ (x.dropWhile (· == 48)).length ≤ 1000000000000000 := by
      rw [show (((0 : Nat) : Int) + 1) = 1 from rfl, Int.one_mul]; exact hp
    have h4 : valL 0 (x.dropWhile (· == 48)) = valL ((0 : Nat) : Int) (x.dropWhile (· == 48)) := rfl
    omega
  · omega
theorem smallI_bnd {e : BL} (h : aD (strip 45 e)) : -1000000000000000 ≤ smallI e ∧ smallI e ≤ 1000000000000000 := by
  have := smallN_bnd h
  unfold smallI; split <;> omega
def pAll (l : BL) : BL := cutL ((pParts (strip 45 l)).1 ++ (pParts (strip 45 l)).2.1)
def pX (l : BL) : Int := smallI (pParts (strip 45 l)).2.2.1 - (pParts (strip 45 l)).2.1.length + (pAll l).length - (cutR (pAll l)).length
theorem pNum_bad {l : BL} (h : (pParts (strip 45 l)).2.2.2 = false) : pNum l = ({}, 1) := by unfold pNum; rw [if_pos h]
theorem pNum_zero {l : BL} (h : (pParts (strip 45 l)).2.2.2 = true) (h2 : pAll l = []) : pNum l = ({}, 0) := by unfold pNum; rw [if_neg (by simp [h])]; exact if_pos h2
theorem pNum_large {l : BL} (h : (pParts (strip 45 l)).2.2.2 = true) (h2 : ¬ pAll l = []) (h3 : 60 < (cutR (pAll l)).length ∨ 1000 < pX l ∨ pX l < -1000) : pNum l = ({}, 5) := by unfold pNum; rw [if_neg (by simp [h])]; exact (if_neg h2).trans (if_pos h3)
theorem pNum_some {l : BL} (h : (pParts (strip 45 l)).2.2.2 = true) (h2 : ¬ pAll l = []) (h3 : ¬ (60 < (cutR (pAll l)).length ∨ 1000 < pX l ∨ pX l < -1000)) : pNum l = (⟨hd45 l, ba (cutR (pAll l)), pX l⟩, 0) := by unfold pNum; rw [if_neg (by simp [h])]; exact (if_neg h2).trans (if_neg h3)
theorem pExp_len (r : BL) : (pExp r).1.length ≤ r.length + 1 := by
  cases r with
  | nil => simp [pExp]
  | cons b q => have := strip_len 43 q; simp only [pExp, List.length_cons]; omega
theorem pParts_len (m : BL) : (pParts m).1.length + (pParts m).2.1.length ≤ m.length ∧ (pParts m).2.2.1.length ≤ m.length + 1 := by
  unfold pParts
  split
  · simp
  · cases hf : pFrac (m.dropWhile isD) with
    | none => simp
    | some z =>
      obtain ⟨f, r⟩ := z
      have h1 := pFrac_len hf
      have h2 := congrArg List.length (List.takeWhile_append_dropWhile (p := isD) (l := m))
      have h3 := pExp_len r
      simp only [List.length_append] at h2 ⊢
      omega
theorem cutL_len (l : BL) : (cutL l).length ≤ l.length := (List.dropWhile_sublist _).length_le
theorem hd45_bat {e : BL} (h : e ≠ []) : hd45 e = true ↔ ((bat (ba e) 0).toNat : Int) = 45 := by
  cases e with
  | nil => exact absurd rfl h
  | cons b q =>
    rw [bat0]
    simp only [hd45, beq_iff_eq]
    constructor
    · rintro rfl; rfl
    · intro h; exact UInt8.toNat_inj.1 (by have : (45 : UInt8).toNat = 45 := rfl; omega)
theorem hng (l : BL) : (!decide (ba (strip 45 l) = ba l)) = hd45 l := by
  have := hd45_strip l
  cases h : hd45 l with
  | true => simpa [ba_inj] using this.2 h
  | false =>
    simp only [Bool.not_eq_false', decide_eq_true_eq, ba_inj]
    exact Decidable.not_not.1 (fun k => by rw [this.1 k] at h; cases h)
theorem pX_eq (l : BL) : pX l = smallI (pParts (strip 45 l)).2.2.1 - ((ba (pParts (strip 45 l)).2.1).size : Int) + ((ba (pAll l)).size : Int) - ((ba (cutR (pAll l))).size : Int) := by
  simp only [ba_size]; rfl
end Lg
set_option maxRecDepth 20000
set_option maxHeartbeats 4000000
namespace Go.Proofs
open Go.Shelf
def Tryd.lays172_ren : Go.Shelf.Ren := ⟨fun | 172 => 41 | 244 => 52 | 245 => 53 | 247 => 58 | 279 => 59 | 280 => 60 | 281 => 61 | 282 => 62 | 287 => 71 | 316 => 72 | 171 => 24 | 205 => 73 | 321 => 80 | 322 => 81 | 243 => 43 | 246 => 54 | 283 => 63 | 284 => 64 | 285 => 65 | 286 => 66 | 129 => 75 | 317 => 74 | 318 => 76 | 319 => 77 | 320 => 78 | 337 => 82 | 338 => 83 | n => n, fun | 9 => 9 | 3 => 3 | 75 => 26 | 76 => 60 | 4 => 4 | 5 => 5 | 167 => 73 | 37 => 45 | 0 => 0 | 85 => 74 | 2 => 2 | 168 => 76 | 53 => 80 | 175 => 93 | 46 => 86 | 210 => 97 | 127 => 105 | 145 => 108 | 143 => 106 | 21 => 21 | 171 => 79 | 173 => 83 | 212 => 100 | 51 => 101 | 20 => 20 | 213 => 102 | 232 => 110 | 233 => 111 | 80 => 112 | n => n, fun | 15 => 2 | 16 => 3 | 17 => 4 | 18 => 6 | 19 => 7 | n => n⟩
theorem Tryd.lays172 : Go.Proofs.Lays.n172 Tryd.prog Tryd.lays172_ren := {
  mixed := by kernel_rfl,
  f129 := Tryd.func75.trans (congrArg some (by kernel_rfl)),
  f171 := Tryd.func24.trans (congrArg some (by kernel_rfl)),
  f172 := Tryd.func41.trans (congrArg some (by kernel_rfl)),
  f205 := Tryd.func73.trans (congrArg some (by kernel_rfl)),
  f243 := Tryd.func43.trans (congrArg some (by kernel_rfl)),
  f244 := Tryd.func52.trans (congrArg some (by kernel_rfl)),
  f245 := Tryd.func53.trans (congrArg some (by kernel_rfl)),
  f246 := Tryd.func54.trans (congrArg some (by kernel_rfl)),
  f247 := Tryd.func58.trans (congrArg some (by kernel_rfl)),
  f279 := Tryd.func59.trans (congrArg some (by kernel_rfl)),
  f280 := Tryd.func60.trans (congrArg some (by kernel_rfl)),
  f281 := Tryd.func61.trans (congrArg some (by kernel_rfl)),
  f282 := Tryd.func62.trans (congrArg some (by kernel_rfl)),
  f283 := Tryd.func63.trans (congrArg some (by kernel_rfl)),
  f284 := Tryd.func64.trans (congrArg some (by kernel_rfl)),
  f285 := Tryd.func65.trans (congrArg some (by kernel_rfl)),
  f286 := Tryd.func66.trans (congrArg some (by kernel_rfl)),
  f287 := Tryd.func71.trans (congrArg some (by kernel_rfl)),
  f316 := Tryd.func72.trans (congrArg some (by kernel_rfl)),
  f317 := Tryd.func74.trans (congrArg some (by kernel_rfl)),
  f318 := Tryd.func76.trans (congrArg some (by kernel_rfl)),
  f319 := Tryd.func77.trans (congrArg some (by kernel_rfl)),
  f320 := Tryd.func78.trans (congrArg some (by kernel_rfl)),
  f321 := Tryd.func80.trans (congrArg some (by kernel_rfl)),
  f322 := Tryd.func81.trans (congrArg some (by kernel_rfl)),
  f337 := Tryd.func82.trans (congrArg some (by kernel_rfl)),
  f338 := Tryd.func83.trans (congrArg some (by kernel_rfl)),
  t0 := Tryd.underlying0,
  a0 := Tryd.isAgg0,
  z0 := Tryd.sizeOf0,
  v0 := Tryd.zeroValue0,
  t2 := Tryd.underlying2,
  a2 := Tryd.isAgg2,
  z2 := Tryd.sizeOf2,
  v2 := Tryd.zeroValue2,
  t3 := Tryd.underlying3,
  a3 := Tryd.isAgg3,
  z3 := Tryd.sizeOf3,
  v3 := Tryd.zeroValue3,
  t4 := Tryd.underlying4,
  a4 := Tryd.isAgg4,
  z4 := Tryd.sizeOf4,
  v4 := Tryd.zeroValue4,
  t5 := Tryd.underlying5,
  a5 := Tryd.isAgg5,
  z5 := Tryd.sizeOf5,
  v5 := Tryd.zeroValue5,
  t9 := Tryd.underlying9,
  a9 := Tryd.isAgg9,
  z9 := Tryd.sizeOf9,
  v9 := Tryd.zeroValue9,
  t20 := Tryd.underlying20,
  a20 := Tryd.isAgg20,
  z20 := Tryd.sizeOf20,
  v20 := Tryd.zeroValue20,
  t21 := Tryd.underlying21,
  a21 := Tryd.isAgg21,
  z21 := Tryd.sizeOf21,
  v21 := Tryd.zeroValue21,
  t37 := Tryd.underlying45,
  a37 := Tryd.isAgg45,
  z37 := Tryd.sizeOf45,
  v37 := Tryd.zeroValue45,
  t46 := Tryd.underlying86,
  a46 := Tryd.isAgg86,
  z46 := Tryd.sizeOf86,
  v46 := Tryd.zeroValue86,
  t51 := Tryd.underlying101,
  a51 := Tryd.isAgg101,
  z51 := Tryd.sizeOf101,
  v51 := Tryd.zeroValue101,
  t53 := Tryd.underlying80,
  a53 := Tryd.isAgg80,
  z53 := Tryd.sizeOf80,
  v53 := Tryd.zeroValue80,
  t75 := Tryd.underlying26,
  a75 := Tryd.isAgg26,
  z75 := Tryd.sizeOf26,
  v75 := Tryd.zeroValue26,
  t76 := Tryd.underlying60,
  a76 := Tryd.isAgg60,
  z76 := Tryd.sizeOf60,
  v76 := Tryd.zeroValue60,
  t85 := Tryd.underlying74,
  a85 := Tryd.isAgg74,
  z85 := Tryd.sizeOf74,
  v85 := Tryd.zeroValue74,
  t127 := Tryd.underlying105,
  a127 := Tryd.isAgg105,
  z127 := Tryd.sizeOf105,
  v127 := Tryd.zeroValue105,
  t143 := Tryd.underlying106,
  a143 := Tryd.isAgg106,
  z143 := Tryd.sizeOf106,
  v143 := Tryd.zeroValue106,
  t145 := Tryd.underlying108,
  a145 := Tryd.isAgg108,
  z145 := Tryd.sizeOf108,
  v145 := Tryd.zeroValue108,
  t167 := Tryd.underlying73,
  a167 := Tryd.isAgg73,
  z167 := Tryd.sizeOf73,
  v167 := Tryd.zeroValue73,
  t168 := Tryd.underlying76,
  a168 := Tryd.isAgg76,
  z168 := Tryd.sizeOf76,
  v168 := Tryd.zeroValue76,
  t171 := Tryd.underlying79,
  a171 := Tryd.isAgg79,
  z171 := Tryd.sizeOf79,
  v171 := Tryd.zeroValue79,
  t173 := Tryd.underlying83,
  a173 := Tryd.isAgg83,
  z173 := Tryd.sizeOf83,
  v173 := Tryd.zeroValue83,
  t175 := Tryd.underlying93,
  a175 := Tryd.isAgg93,
  z175 := Tryd.sizeOf93,
  v175 := Tryd.zeroValue93,
  t210 := Tryd.underlying97,
  a210 := Tryd.isAgg97,
  z210 := Tryd.sizeOf97,
  v210 := Tryd.zeroValue97,
  t212 := Tryd.underlying100,
  a212 := Tryd.isAgg100,
  z212 := Tryd.sizeOf100,
  v212 := Tryd.zeroValue100,
  t213 := Tryd.underlying102,
  a213 := Tryd.isAgg102,
  z213 := Tryd.sizeOf102,
  t232 := Tryd.underlying110,
  a232 := Tryd.isAgg110,
  z232 := Tryd.sizeOf110,
  v232 := Tryd.zeroValue110,
  t233 := Tryd.underlying111,
  a233 := Tryd.isAgg111,
  z233 := Tryd.sizeOf111,
  v233 := Tryd.zeroValue111,
  g15 := by kernel_rfl,
  g16 := by kernel_rfl,
  g17 := by kernel_rfl,
  g18 := by kernel_rfl,
  g19 := by kernel_rfl }

def Tryd.laysM171_ren : Go.Shelf.Ren := ⟨fun | 171 => 24 | 243 => 43 | 246 => 54 | 283 => 63 | 284 => 64 | 285 => 65 | 286 => 66 | 129 => 75 | 317 => 74 | 318 => 76 | 319 => 77 | 320 => 78 | 337 => 82 | 338 => 83 | n => n, fun | 3 => 3 | 9 => 9 | 2 => 2 | 4 => 4 | 171 => 79 | 0 => 0 | 53 => 80 | 37 => 45 | 5 => 5 | 173 => 83 | 212 => 100 | 51 => 101 | 20 => 20 | 213 => 102 | 46 => 86 | 232 => 110 | 233 => 111 | n => n, fun | 17 => 4 | 18 => 6 | 19 => 7 | n => n⟩
theorem Tryd.laysM171 : Go.Proofs.LaysM.n171 Tryd.prog Tryd.laysM171_ren := {
  mixed := by kernel_rfl,
  f129 := Tryd.func75.trans (congrArg some (by kernel_rfl)),
  f171 := Tryd.func24.trans (congrArg some (by kernel_rfl)),
  f243 := Tryd.func43.trans (congrArg some (by kernel_rfl)),
  f246 := Tryd.func54.trans (congrArg some (by kernel_rfl)),
  f283 := Tryd.func63.trans (congrArg some (by kernel_rfl)),
  f284 := Tryd.func64.trans (congrArg some (by kernel_rfl)),
  f285 := Tryd.func65.trans (congrArg some (by kernel_rfl)),
  f286 := Tryd.func66.trans (congrArg some (by kernel_rfl)),
  f317 := Tryd.func74.trans (congrArg some (by kernel_rfl)),
  f318 := Tryd.func76.trans (congrArg some (by kernel_rfl)),
  f319 := Tryd.func77.trans (congrArg some (by kernel_rfl)),
  f320 := Tryd.func78.trans (congrArg some (by kernel_rfl)),
  f337 := Tryd.func82.trans (congrArg some (by kernel_rfl)),
  f338 := Tryd.func83.trans (congrArg some (by kernel_rfl)),
  t0 := Tryd.underlying0,
  a0 := Tryd.isAgg0,
  z0 := Tryd.sizeOf0,
  v0 := Tryd.zeroValue0,
  t2 := Tryd.underlying2,
  a2 := Tryd.isAgg2,
  z2 := Tryd.sizeOf2,
  v2 := Tryd.zeroValue2,
  t3 := Tryd.underlying3,
  a3 := Tryd.isAgg3,
  z3 := Tryd.sizeOf3,
  v3 := Tryd.zeroValue3,
  t4 := Tryd.underlying4,
  a4 := Tryd.isAgg4,
  z4 := Tryd.sizeOf4,
  v4 := Tryd.zeroValue4,
  t5 := Tryd.underlying5,
  a5 := Tryd.isAgg5,
  z5 := Tryd.sizeOf5,
  v5 := Tryd.zeroValue5,
  t9 := Tryd.underlying9,
  a9 := Tryd.isAgg9,
  z9 := Tryd.sizeOf9,
  v9 := Tryd.zeroValue9,
  t20 := Tryd.underlying20,
  a20 := Tryd.isAgg20,
  z20 := Tryd.sizeOf20,
  v20 := Tryd.zeroValue20,
  t37 := Tryd.underlying45,
  a37 := Tryd.isAgg45,
  z37 := Tryd.sizeOf45,
  v37 := Tryd.zeroValue45,
  t46 := Tryd.underlying86,
  a46 := Tryd.isAgg86,
  z46 := Tryd.sizeOf86,
  v46 := Tryd.zeroValue86,
  t51 := Tryd.underlying101,
  a51 := Tryd.isAgg101,
  z51 := Tryd.sizeOf101,
  v51 := Tryd.zeroValue101,
  t53 := Tryd.underlying80,
  a53 := Tryd.isAgg80,
  z53 := Tryd.sizeOf80,
  v53 := Tryd.zeroValue80,
  t171 := Tryd.underlying79,
  a171 := Tryd.isAgg79,
  z171 := Tryd.sizeOf79,
  v171 := Tryd.zeroValue79,
  t173 := Tryd.underlying83,
  a173 := Tryd.isAgg83,
  z173 := Tryd.sizeOf83,
  v173 := Tryd.zeroValue83,
  t212 := Tryd.underlying100,
  a212 := Tryd.isAgg100,
  z212 := Tryd.sizeOf100,
  v212 := Tryd.zeroValue100,
  t213 := Tryd.underlying102,
  a213 := Tryd.isAgg102,
  z213 := Tryd.sizeOf102,
  t232 := Tryd.underlying110,
  a232 := Tryd.isAgg110,
  z232 := Tryd.sizeOf110,
  v232 := Tryd.zeroValue110,
  t233 := Tryd.underlying111,
  a233 := Tryd.isAgg111,
  z233 := Tryd.sizeOf111,
  v233 := Tryd.zeroValue111,
  g17 := by kernel_rfl,
  g18 := by kernel_rfl,
  g19 := by kernel_rfl,
  i0 := by kernel_rfl,
  i2 := by kernel_rfl,
  i3 := by kernel_rfl,
  i4 := by kernel_rfl,
  i5 := by kernel_rfl,
  i9 := by kernel_rfl,
  i20 := by kernel_rfl,
  i37 := by kernel_rfl,
  i46 := by kernel_rfl,
  i51 := by kernel_rfl,
  i53 := by kernel_rfl,
  i171 := by kernel_rfl,
  i173 := by kernel_rfl,
  i212 := by kernel_rfl,
  i232 := by kernel_rfl,
  i233 := by kernel_rfl,
  m17 := by kernel_rfl,
  m18 := by kernel_rfl,
  m19 := by kernel_rfl }

end Go.Proofs
namespace Lg
open Go Go.Proofs Go.RowKit
/-- The table of the powers of ten lies there. -/
class S10 [GLay] : Prop where
  tabs : ∀ w : World, Laid w → Go.Lib.TabIs Tryd.prog w "internal/strconv.uint64pow10" .u64 Go.Lib.pow10Tab
variable [GLay]
theorem PW.int1 {s : CS} {k : IntKind} {n : Int} {vs : List Value} (h : PW s [.int k n] vs) : vs = [.int k n] := by
  obtain ⟨h1, h2⟩ := h
  match vs, h1 with
  | [v], _ => rw [(h2 0 (.int k n) v rfl rfl).inv_int]
theorem atoi_c (s : ByteArray) (n : Int) (σ : List AO) (hs : s.size ≤ 18) (h : Go.Lib.atoi s.data.toList = some n) : ACalls Tryd.prog 41 [.str s] σ (Ret (.tup [.int .i64 n, .nili]) σ) :=
  ACalls_below fun st cargs g hp => by
    rw [hp.str1]
    refine ⟨.tuple #[.int .i64 n, .nilIface], fun _ => ?_, (Any.strconv_Atoi Tryd.lays172 s n hs h st.w).mono ?_⟩
    rotate_left
    · rintro e w' ⟨rfl, t, rfl⟩
      exact ⟨rfl, rfl, rfl, rfl, by rw [Go.Lib.bytesWorld_size]; omega, fun j hj => Go.Lib.bytesWorld_at_old st.w _ t j hj⟩
    · exact .tup [.int .i64 n, .nili] [.int .i64 n, .nilIface] rfl (fun i c v h1 h2 => by
        match i, h1, h2 with
        | 0, h1, h2 => cases h1; cases h2; exact .int _ _
        | 1, h1, h2 => cases h1; cases h2; exact .nili)
variable [S10]
theorem itoa_c (n : Int) (σ : List AO) (h0 : -9223372036854775808 ≤ n) (h1 : n ≤ 9223372036854775807) : ACalls Tryd.prog 24 [.int .i64 n] σ (Ret (.str (itoaB n)) σ) :=
  ACalls_below fun st cargs g hp => by
    rw [hp.int1]
    refine ⟨.string ⟨(Go.Lib.itoa n).toArray⟩, fun _ => ?_, (Any.strconv_Itoa Tryd.laysM171 n h0 h1 st.w (S10.tabs _ g.laid)).mono ?_⟩
    rotate_left
    · rintro e w' ⟨rfl, k, os, rfl⟩
      exact ⟨rfl, rfl, rfl, rfl, by simp [Go.Sort.grow], fun i hi => by
        show ((st.w.drewN k).heap ++ os)[i]? = _
        rw [Array.getElem?_append_left (by show i < st.w.heap.size; omega)]
        rfl⟩
    · exact .str _
end Lg
set_option maxRecDepth 20000
set_option maxHeartbeats 4000000
namespace Lg
open Go Go.Proofs Go.RowKit
variable [GLay] 


theorem small_c (e : BL) (σ : List AO) (hne : e ≠ []) (hd : aD (strip 45 e)) (hl : e.length ≤ 1000000) : ACalls Tryd.prog 21 [.str (ba e)] σ (Ret (.int .i64 (smallI e)) σ) := by
  refine ACalls_body Tryd.func21 rfl Tryd.ntmps21 (res1 Tryd.results21) (Nat.le_of_ble_eq_true rfl) (fun hcl hal => ?_)
  have hsl := strip_len 45 e
  have hcl2 := cutL_len (strip 45 e)
  have hbs : (ba (cutL (strip 45 e))).size = (cutL (strip 45 e)).length := ba_size _
  have hbe : (ba e).size = e.length := ba_size _
  have h1s : (ByteArray.mk #[48]).size = 1 := rfl
  have hbnd := smallN_bnd hd
  have hpos : 0 < e.length := List.length_pos_iff.2 hne
  have hb0 : bat (ba e) 0 = e.headD 0 := by rw [bat_ba]; cases e <;> rfl
  have hh := hd45_bat hne
  refine AWp_seq ?_
  -- region 0 num.go:49
  refine AWp_regL ?_
  refine st rfl rfl rfl (op_assignO rfl rfl) ?_
  refine AOps_nil ?_
  refine AWp_seq ?_
  -- region 1 num.go:50
  refine AWp_regL ?_
  refine st rfl rfl rfl (op_moveO rfl rfl) ?_
  refine st rfl rfl rfl (op_callF rfl rfl rfl Tryd.func17 rfl rfl (tTrimPre_c e 45 _ (by omega))) ?_
  refine st rfl rfl rfl (op_callF rfl rfl rfl Tryd.func19 rfl rfl (tTrimL_c (strip 45 e) _ (by omega))) ?_
  refine st rfl rfl rfl (op_assignO rfl rfl) ?_
  refine AOps_nil ?_
  refine AWp_seq ?_
  -- region 2 num.go:51
  refine AWp_regL ?_
  refine st rfl rfl rfl (op_assignO rfl rfl) ?_
  refine AOps_nil ?_
  refine AWp_join (ι := Unit) (fun w0 => True) (fun w0 => ⟨[], [(0, .str (ba e)), (4, .int .i64 (smallN (strip 45 e)))]⟩) (fun w0 => σ) ?_ (fun w0 hj => ?_)
  · skip
    refine AWp_seq ?_
    -- region 3 num.go:52
    refine AWp_regL ?_
    refine st rfl rfl rfl (op_moveO rfl rfl) ?_
    refine st rfl rfl rfl (op_lenStr rfl rfl Tryd.underlying9 rfl) ?_
    refine st rfl rfl rfl (op_lss rfl rfl rfl) ?_
    refine AOps_nil ?_
    refine AWp_cond rfl (fun h1 => ?_) (fun h1 => ?_)
    · (try rw [h1]); (try simp only [decide_eq_true_eq, decide_eq_false_iff_not, Bool.not_eq_true', Bool.not_eq_false', Int.not_lt, Int.not_le, Bool.not_true, Bool.not_false, Int.toNat_natCast, bne_iff_ne, beq_iff_eq, beq_eq_false_iff_ne, ne_eq, Decidable.not_not] at h1)
      -- region 4 num.go:53
      refine AWp_regL ?_
      refine st rfl rfl rfl (op_moveO rfl rfl) ?_
      refine st rfl rfl rfl (op_cat rfl rfl rfl (by omega)) ?_
      refine st rfl rfl rfl (op_callF rfl rfl rfl Tryd.func41 rfl rfl (atoi_c _ (valL 0 (cutL (strip 45 e))) _ (by rw [ByteArray.size_append]; omega) (by rw [show (⟨#[48]⟩ : ByteArray) = ba [48] from rfl, ba_app, ba_toList]; exact atoi_val (aD_dw hd)))) ?_
      refine st rfl rfl rfl (op_moveO rfl rfl) ?_
      refine st rfl rfl rfl (op_extract rfl rfl rfl) ?_
      refine st rfl rfl rfl (op_extract rfl rfl rfl) ?_
      refine st rfl rfl rfl (op_assignO rfl rfl) ?_
      refine AOps_nil ?_
      refine ⟨(), trivial, ⟨rfl, rfl, ?_, trivial⟩, rfl⟩
      unfold smallN; first | (rw [if_pos (show ((strip 45 e).dropWhile (· == 48)).length < 15 by unfold cutL at *; omega)]; rfl) | (rw [if_neg (show ¬ ((strip 45 e).dropWhile (· == 48)).length < 15 by unfold cutL at *; omega)]; rfl)
    · (try rw [h1]); (try simp only [decide_eq_true_eq, decide_eq_false_iff_not, Bool.not_eq_true', Bool.not_eq_false', Int.not_lt, Int.not_le, Bool.not_true, Bool.not_false, Int.toNat_natCast, bne_iff_ne, beq_iff_eq, beq_eq_false_iff_ne, ne_eq, Decidable.not_not] at h1)
      refine AWp_skip ?_
      refine ⟨(), trivial, ⟨rfl, rfl, ?_, trivial⟩, rfl⟩
      unfold smallN; first | (rw [if_pos (show ((strip 45 e).dropWhile (· == 48)).length < 15 by unfold cutL at *; omega)]; rfl) | (rw [if_neg (show ¬ ((strip 45 e).dropWhile (· == 48)).length < 15 by unfold cutL at *; omega)]; rfl)
  · skip
    refine AWp_seq ?_
    refine AWp_seq ?_
    -- region 5 num.go:55
    refine AWp_regL ?_
    refine st rfl rfl rfl (op_moveO rfl rfl) ?_
    refine st rfl rfl rfl (op_index_strB rfl Tryd.underlying9 rfl rfl (by omega) (by omega)) ?_
    refine st rfl rfl rfl (op_eql rfl rfl rfl) ?_
    refine AOps_nil ?_
    refine AWp_cond rfl (fun h2 => ?_) (fun h2 => ?_)
    · (try rw [h2]); (try simp only [decide_eq_true_eq, decide_eq_false_iff_not, Bool.not_eq_true', Bool.not_eq_false', Int.not_lt, Int.not_le, Bool.not_true, Bool.not_false, Int.toNat_natCast, bne_iff_ne, beq_iff_eq, beq_eq_false_iff_ne, ne_eq, Decidable.not_not] at h2)
      refine AWp_seq ?_
      -- region 6 num.go:56
      refine AWp_regL ?_
      refine st rfl rfl rfl (op_moveO rfl rfl) ?_
      refine st rfl rfl rfl (op_neg64 rfl rfl (by omega) (by omega)) ?_
      refine st rfl rfl rfl (op_assignO rfl rfl) ?_
      refine AOps_nil ?_
      refine AWp_ret ?_
      (try simp only [blockQ, thenQ])
      refine ResQ_10 rfl hcl trivial (Ret_of ?_)
      congr 1; unfold smallI; rw [if_pos (hh.2 h2)]
    · (try rw [h2]); (try simp only [decide_eq_true_eq, decide_eq_false_iff_not, Bool.not_eq_true', Bool.not_eq_false', Int.not_lt, Int.not_le, Bool.not_true, Bool.not_false, Int.toNat_natCast, bne_iff_ne, beq_iff_eq, beq_eq_false_iff_ne, ne_eq, Decidable.not_not] at h2)
      refine AWp_skip ?_
      refine AWp_seq ?_
      -- region 7 num.go:58
      refine AWp_regL ?_
      refine st rfl rfl rfl (op_moveO rfl rfl) ?_
      refine st rfl rfl rfl (op_assignO rfl rfl) ?_
      refine AOps_nil ?_
      refine AWp_ret ?_
      (try simp only [blockQ, thenQ])
      refine ResQ_10 rfl hcl trivial (Ret_of ?_)
      congr 1; unfold smallI; rw [if_neg (fun k => h2 (hh.1 k))]

end Lg
set_option maxRecDepth 20000
set_option maxHeartbeats 4000000
namespace Lg
open Go Go.Proofs Go.RowKit
variable [GLay] 


def cerr (k : Int) : AV := if k = 0 then .nili else .iface 41 (.int .i64 k)
theorem cerr_lt (m : Nat) (n : JNum) (k : Int) : AV.lt m (.tup [.agg (ncells n), cerr k]) := by
  unfold cerr; split <;> simp [AV.lt, AV.ltL, ncells]
theorem pparse_c (l : BL) (σ : List AO) (hl : l.length ≤ 1000) : ACalls Tryd.prog 6 [.str (ba l)] σ (Ret (.tup [.agg (ncells (pNum l).1), cerr (pNum l).2]) σ) := by
  refine ACalls_bodyC Tryd.func6 rfl Tryd.ntmps6 (by rw [Tryd.results6]; exact (.ck Tryd.isAgg24 Tryd.sizeOf24 (.t .nil))) (Nat.le_of_ble_eq_true rfl) (fun hcl hal => ?_)
  have hsl := strip_len 45 l
  have hpl := pParts_len (strip 45 l)
  have hg := fun h => gathered (m := strip 45 l) h false
  have hz1 : (ba (pParts (strip 45 l)).1).size = _ := ba_size _
  have hz2 : (ba (pParts (strip 45 l)).2.1).size = _ := ba_size _
  have hz3 : (ba (pAll l)).size = _ := ba_size _
  have hz4 : (ba (cutR (pAll l))).size = _ := ba_size _
  have hc1 : (pAll l).length ≤ ((pParts (strip 45 l)).1 ++ (pParts (strip 45 l)).2.1).length := cutL_len _
  rw [List.length_append] at hc1
  have hc2 := cutR_len (pAll l)
  refine AWp_seq ?_
  -- region 0 num.go:62
  refine AWp_regL ?_
  refine st rfl rfl rfl (op_alloc0 (cs := [_, _, _]) rfl Tryd.zeroValue24 rfl) ?_
  refine st rfl rfl rfl (op_assignO rfl rfl) ?_
  refine AOps_nil ?_
  refine AWp_seq ?_
  -- region 1 num.go:63
  refine AWp_regL ?_
  refine st rfl rfl rfl (op_moveO rfl rfl) ?_
  refine st rfl rfl rfl (op_callF rfl rfl rfl Tryd.func17 rfl rfl (tTrimPre_c l 45 _ (by omega))) ?_
  rw [show (45 : UInt8).toNat = 45 from rfl]
  refine st rfl rfl rfl (op_assignO rfl rfl) ?_
  refine AOps_nil ?_
  refine AWp_seq ?_
  -- region 2 num.go:64
  refine AWp_regL ?_
  refine st rfl rfl rfl (op_moveO rfl rfl) ?_
  refine st rfl rfl rfl (op_callF rfl rfl rfl Tryd.func18 rfl rfl (parts_c (strip 45 l) _ (by omega))) ?_
  refine st rfl rfl rfl (op_moveO rfl rfl) ?_
  refine st rfl rfl rfl (op_extract rfl rfl rfl) ?_
  refine st rfl rfl rfl (op_extract rfl rfl rfl) ?_
  refine st rfl rfl rfl (op_extract rfl rfl rfl) ?_
  refine st rfl rfl rfl (op_extract rfl rfl rfl) ?_
  refine st rfl rfl rfl (op_assignO rfl rfl) ?_
  refine st rfl rfl rfl (op_assignO rfl rfl) ?_
  refine st rfl rfl rfl (op_assignO rfl rfl) ?_
  refine st rfl rfl rfl (op_assignO rfl rfl) ?_
  refine AOps_nil ?_
  refine AWp_seq ?_
  refine AWp_seq ?_
  -- region 3 num.go:65
  refine AWp_regL ?_
  refine st rfl rfl rfl (op_moveO rfl rfl) ?_
  refine st rfl rfl rfl (op_not rfl rfl) ?_
  refine AOps_nil ?_
  refine AWp_cond rfl (fun h1 => ?_) (fun h1 => ?_)
  · (try rw [h1]); (try simp only [decide_eq_true_eq, decide_eq_false_iff_not, Bool.not_eq_true', Bool.not_eq_false', Int.not_lt, Int.not_le, Bool.not_true, Bool.not_false, Int.toNat_natCast, bne_iff_ne, beq_iff_eq, beq_eq_false_iff_ne, ne_eq, Decidable.not_not] at h1)
    have hok : (pParts (strip 45 l)).2.2.2 = false := by simpa using h1
    refine AWp_seq ?_
    -- region 4 num.go:66
    refine AWp_regL ?_
    refine st rfl rfl rfl (op_buildP (cs := [_, _, _]) [(0, 1), (1, 1), (2, 1)] rfl Tryd.underlying24 Tryd.zeroValue24 ⟨rfl, Tryd.sizeOf4, ⟨rfl, Tryd.sizeOf9, ⟨rfl, Tryd.sizeOf3, trivial⟩⟩⟩ rfl rfl) ?_
    refine st rfl rfl rfl (op_makeInterface rfl Tryd.underlying41 (by intro ms h; cases h) rfl) ?_
    refine stN rfl rfl ((by first | exact op_storeO (r := [_, _, _]) rfl Tryd.sizeOf24 rfl rfl rfl rfl rfl (by decide) | exact op_storeP (r := [_, _, _]) rfl Tryd.sizeOf24 rfl rfl rfl (by assumption) rfl (by decide))) ?_
    refine st rfl rfl rfl (op_assignO rfl rfl) ?_
    refine AOps_nil ?_
    refine AWp_ret ?_
    (try simp only [blockQ, thenQ])
    rw [pNum_bad hok]; exact RQ_ret (rkvs_cons (rkv_ck rfl rfl rfl) (rkvs_cons (rkv_t rfl) rfl)) hcl (cerr_lt _ ({} : JNum) 1) (Ret_of rfl)
  · (try rw [h1]); (try simp only [decide_eq_true_eq, decide_eq_false_iff_not, Bool.not_eq_true', Bool.not_eq_false', Int.not_lt, Int.not_le, Bool.not_true, Bool.not_false, Int.toNat_natCast, bne_iff_ne, beq_iff_eq, beq_eq_false_iff_ne, ne_eq, Decidable.not_not] at h1)
    have hok : (pParts (strip 45 l)).2.2.2 = true := by simpa using h1
    obtain ⟨_, _, _, hg1, hg2, _, _, _⟩ := hg hok
    have hsb := smallI_bnd hg1
    refine AWp_skip ?_
    refine AWp_seq ?_
    -- region 5 num.go:68
    refine AWp_regL ?_
    refine st rfl rfl rfl (op_moveO rfl rfl) ?_
    refine st rfl rfl rfl (op_moveO rfl rfl) ?_
    refine st rfl rfl rfl (op_cat rfl rfl rfl (by omega)) ?_
    simp only [ba_app]
    refine st rfl rfl rfl (op_callF rfl rfl rfl Tryd.func19 rfl rfl (tTrimL_c ((pParts (strip 45 l)).1 ++ (pParts (strip 45 l)).2.1) _ (by rw [List.length_append]; omega))) ?_
    rw [show cutL ((pParts (strip 45 l)).1 ++ (pParts (strip 45 l)).2.1) = pAll l from rfl]
    refine st rfl rfl rfl (op_assignO rfl rfl) ?_
    refine AOps_nil ?_
    refine AWp_seq ?_
    refine AWp_seq ?_
    -- region 6 num.go:69
    refine AWp_regL ?_
    refine st rfl rfl rfl (op_moveO rfl rfl) ?_
    refine st rfl rfl rfl (op_seql rfl rfl rfl) ?_
    refine AOps_nil ?_
    refine AWp_cond rfl (fun h2 => ?_) (fun h2 => ?_)
    · (try rw [h2]); (try simp only [decide_eq_true_eq, decide_eq_false_iff_not, Bool.not_eq_true', Bool.not_eq_false', Int.not_lt, Int.not_le, Bool.not_true, Bool.not_false, Int.toNat_natCast, bne_iff_ne, beq_iff_eq, beq_eq_false_iff_ne, ne_eq, Decidable.not_not] at h2)
      refine AWp_seq ?_
      -- region 7 num.go:70
      refine AWp_regL ?_
      refine st rfl rfl rfl (op_buildP (cs := [_, _, _]) [(0, 1), (1, 1), (2, 1)] rfl Tryd.underlying24 Tryd.zeroValue24 ⟨rfl, Tryd.sizeOf4, ⟨rfl, Tryd.sizeOf9, ⟨rfl, Tryd.sizeOf3, trivial⟩⟩⟩ rfl rfl) ?_
      refine stN rfl rfl ((by first | exact op_storeO (r := [_, _, _]) rfl Tryd.sizeOf24 rfl rfl rfl rfl rfl (by decide) | exact op_storeP (r := [_, _, _]) rfl Tryd.sizeOf24 rfl rfl rfl (by assumption) rfl (by decide))) ?_
      refine st rfl rfl rfl (op_assignO rfl rfl) ?_
      refine AOps_nil ?_
      refine AWp_ret ?_
      (try simp only [blockQ, thenQ])
      rw [pNum_zero hok (ba_nil.1 h2)]; exact RQ_ret (rkvs_cons (rkv_ck rfl rfl rfl) (rkvs_cons (rkv_t rfl) rfl)) hcl (cerr_lt _ ({} : JNum) 0) (Ret_of rfl)
    · (try rw [h2]); (try simp only [decide_eq_true_eq, decide_eq_false_iff_not, Bool.not_eq_true', Bool.not_eq_false', Int.not_lt, Int.not_le, Bool.not_true, Bool.not_false, Int.toNat_natCast, bne_iff_ne, beq_iff_eq, beq_eq_false_iff_ne, ne_eq, Decidable.not_not] at h2)
      refine AWp_skip ?_
      refine AWp_seq ?_
      -- region 8 num.go:72
      refine AWp_regL ?_
      refine st rfl rfl rfl (op_moveO rfl rfl) ?_
      refine st rfl rfl rfl (op_callF rfl rfl rfl Tryd.func20 rfl rfl (tTrimR_c (pAll l) _ (by omega))) ?_
      refine st rfl rfl rfl (op_assignO rfl rfl) ?_
      refine AOps_nil ?_
      refine AWp_seq ?_
      -- region 9 num.go:73
      refine AWp_regL ?_
      refine st rfl rfl rfl (op_moveO rfl rfl) ?_
      refine st rfl rfl rfl (op_moveO rfl rfl) ?_
      refine st rfl rfl rfl (op_sneq rfl rfl rfl) ?_
      rw [hng l]
      refine st rfl rfl rfl (op_moveO rfl rfl) ?_
      refine st rfl rfl rfl (op_moveO rfl rfl) ?_
      refine st rfl rfl rfl (op_callF rfl rfl rfl Tryd.func21 rfl rfl (small_c (pParts (strip 45 l)).2.2.1 _ hg2 hg1 (by omega))) ?_
      refine st rfl rfl rfl (op_moveO rfl rfl) ?_
      refine st rfl rfl rfl (op_lenStr rfl rfl Tryd.underlying9 rfl) ?_
      refine st rfl rfl rfl (op_sub64 rfl rfl rfl (by omega) (by omega)) ?_
      refine st rfl rfl rfl (op_moveO rfl rfl) ?_
      refine st rfl rfl rfl (op_lenStr rfl rfl Tryd.underlying9 rfl) ?_
      refine st rfl rfl rfl (op_add64 rfl rfl rfl (by omega) (by omega)) ?_
      refine st rfl rfl rfl (op_moveO rfl rfl) ?_
      refine st rfl rfl rfl (op_lenStr rfl rfl Tryd.underlying9 rfl) ?_
      refine st rfl rfl rfl (op_sub64 rfl rfl rfl (by omega) (by omega)) ?_
      refine st rfl rfl rfl (op_buildP (cs := [_, _, _]) [(0, 1), (1, 1), (2, 1)] rfl Tryd.underlying24 Tryd.zeroValue24 ⟨rfl, Tryd.sizeOf4, ⟨rfl, Tryd.sizeOf9, ⟨rfl, Tryd.sizeOf3, trivial⟩⟩⟩ rfl rfl) ?_
      refine st rfl rfl rfl (op_allocO (cs := [_, _, _]) 1 rfl rfl Tryd.zeroValue24 rfl) ?_
      refine stN rfl rfl ((by first | exact op_storeO (r := [_, _, _]) rfl Tryd.sizeOf24 rfl rfl rfl rfl rfl (by decide) | exact op_storeP (r := [_, _, _]) rfl Tryd.sizeOf24 rfl rfl rfl (by assumption) rfl (by decide))) ?_
      refine AOps_nil ?_
      refine AWp_seq ?_
      refine AWp_seq ?_
      -- region 10 num.go:74
      refine AWp_regL ?_
      refine st rfl rfl rfl (op_moveO rfl rfl) ?_
      refine st rfl rfl rfl (op_lenStr rfl rfl Tryd.underlying9 rfl) ?_
      refine st rfl rfl rfl (op_gtr rfl rfl rfl) ?_
      refine st rfl rfl rfl (op_moveO rfl rfl) ?_
      refine AOps_split 53 rfl (fun h3 => ?_) (fun h3 => ?_)
      · rw [h3]; (try simp only [decide_eq_true_eq, decide_eq_false_iff_not, Bool.not_eq_true', Bool.not_eq_false', Int.not_lt, Int.not_le, Bool.not_true, Bool.not_false, Int.toNat_natCast, bne_iff_ne, beq_iff_eq, beq_eq_false_iff_ne, ne_eq, Decidable.not_not] at h3)
        refine stS rfl rfl rfl (.inl rfl) rfl rfl ?_
        refine stS rfl rfl rfl (.inl rfl) rfl rfl ?_
        refine stS rfl rfl rfl (.inl rfl) rfl rfl ?_
        refine st rfl rfl rfl (op_pickTO rfl rfl rfl) ?_
        refine st rfl rfl rfl (op_moveO rfl rfl) ?_
        refine stS rfl rfl rfl (.inl rfl) rfl rfl ?_
        refine stS rfl rfl rfl (.inl rfl) rfl rfl ?_
        refine stS rfl rfl rfl (.inl rfl) rfl rfl ?_
        refine st rfl rfl rfl (op_pickTO rfl rfl rfl) ?_
        refine AOps_nil ?_
        refine AWp_condT rfl ?_
        refine AWp_seq ?_
        -- region 11 num.go:75
        refine AWp_regL ?_
        refine st rfl rfl rfl (op_buildP (cs := [_, _, _]) [(0, 1), (1, 1), (2, 1)] rfl Tryd.underlying24 Tryd.zeroValue24 ⟨rfl, Tryd.sizeOf4, ⟨rfl, Tryd.sizeOf9, ⟨rfl, Tryd.sizeOf3, trivial⟩⟩⟩ rfl rfl) ?_
        refine st rfl rfl rfl (op_makeInterface rfl Tryd.underlying41 (by intro ms h; cases h) rfl) ?_
        refine stN rfl rfl ((by first | exact op_storeO (r := [_, _, _]) rfl Tryd.sizeOf24 rfl rfl rfl rfl rfl (by decide) | exact op_storeP (r := [_, _, _]) rfl Tryd.sizeOf24 rfl rfl rfl (by assumption) rfl (by decide))) ?_
        refine st rfl rfl rfl (op_assignO rfl rfl) ?_
        refine AOps_nil ?_
        refine AWp_ret ?_
        (try simp only [blockQ, thenQ])
        rw [pNum_large hok (fun k => h2 (ba_nil.2 k)) (.inl (by omega))]; exact RQ_ret (rkvs_cons (rkv_ck rfl rfl rfl) (rkvs_cons (rkv_t rfl) rfl)) hcl (cerr_lt _ ({} : JNum) 5) (Ret_of rfl)
      · rw [h3]; (try simp only [decide_eq_true_eq, decide_eq_false_iff_not, Bool.not_eq_true', Bool.not_eq_false', Int.not_lt, Int.not_le, Bool.not_true, Bool.not_false, Int.toNat_natCast, bne_iff_ne, beq_iff_eq, beq_eq_false_iff_ne, ne_eq, Decidable.not_not] at h3)
        refine stG rfl rfl rfl rfl rfl rfl (op_fieldAddrO (fo := 2) rfl Tryd.underlying24 rfl rfl Tryd.sizeOf3 (by decide) rfl trivial) ?_
        refine stG rfl rfl rfl rfl rfl rfl (op_load1 rfl Tryd.isAgg3 (by first | exact ldv_own rfl rfl | exact ldv_pp rfl | exact ldv_old (by assumption) rfl | exact ldv_ptr (by assumption) rfl)) ?_
        refine stG rfl rfl rfl rfl rfl rfl (op_gtr rfl rfl rfl) ?_
        refine st rfl rfl rfl (op_pickFO rfl rfl rfl) ?_
        refine st rfl rfl rfl (op_moveO rfl rfl) ?_
        refine AOps_split 58 rfl (fun h4 => ?_) (fun h4 => ?_)
        · rw [h4]; (try simp only [decide_eq_true_eq, decide_eq_false_iff_not, Bool.not_eq_true', Bool.not_eq_false', Int.not_lt, Int.not_le, Bool.not_true, Bool.not_false, Int.toNat_natCast, bne_iff_ne, beq_iff_eq, beq_eq_false_iff_ne, ne_eq, Decidable.not_not] at h4)
          refine stS rfl rfl rfl (.inl rfl) rfl rfl ?_
          refine stS rfl rfl rfl (.inl rfl) rfl rfl ?_
          refine stS rfl rfl rfl (.inl rfl) rfl rfl ?_
          refine st rfl rfl rfl (op_pickTO rfl rfl rfl) ?_
          refine AOps_nil ?_
          refine AWp_condT rfl ?_
          refine AWp_seq ?_
          -- region 11 num.go:75
          refine AWp_regL ?_
          refine st rfl rfl rfl (op_buildP (cs := [_, _, _]) [(0, 1), (1, 1), (2, 1)] rfl Tryd.underlying24 Tryd.zeroValue24 ⟨rfl, Tryd.sizeOf4, ⟨rfl, Tryd.sizeOf9, ⟨rfl, Tryd.sizeOf3, trivial⟩⟩⟩ rfl rfl) ?_
          refine st rfl rfl rfl (op_makeInterface rfl Tryd.underlying41 (by intro ms h; cases h) rfl) ?_
          refine stN rfl rfl ((by first | exact op_storeO (r := [_, _, _]) rfl Tryd.sizeOf24 rfl rfl rfl rfl rfl (by decide) | exact op_storeP (r := [_, _, _]) rfl Tryd.sizeOf24 rfl rfl rfl (by assumption) rfl (by decide))) ?_
          refine st rfl rfl rfl (op_assignO rfl rfl) ?_
          refine AOps_nil ?_
          refine AWp_ret ?_
          (try simp only [blockQ, thenQ])
          rw [pNum_large hok (fun k => h2 (ba_nil.2 k)) (.inr (.inl (by unfold pX; omega)))]; exact RQ_ret (rkvs_cons (rkv_ck rfl rfl rfl) (rkvs_cons (rkv_t rfl) rfl)) hcl (cerr_lt _ ({} : JNum) 5) (Ret_of rfl)
        · rw [h4]; (try simp only [decide_eq_true_eq, decide_eq_false_iff_not, Bool.not_eq_true', Bool.not_eq_false', Int.not_lt, Int.not_le, Bool.not_true, Bool.not_false, Int.toNat_natCast, bne_iff_ne, beq_iff_eq, beq_eq_false_iff_ne, ne_eq, Decidable.not_not] at h4)
          refine stG rfl rfl rfl rfl rfl rfl (op_fieldAddrO (fo := 2) rfl Tryd.underlying24 rfl rfl Tryd.sizeOf3 (by decide) rfl trivial) ?_
          refine stG rfl rfl rfl rfl rfl rfl (op_load1 rfl Tryd.isAgg3 (by first | exact ldv_own rfl rfl | exact ldv_pp rfl | exact ldv_old (by assumption) rfl | exact ldv_ptr (by assumption) rfl)) ?_
          refine stG rfl rfl rfl rfl rfl rfl (op_lss rfl rfl rfl) ?_
          refine st rfl rfl rfl (op_pickFO rfl rfl rfl) ?_
          refine AOps_nil ?_
          refine AWp_cond rfl (fun h5 => ?_) (fun h5 => ?_)
          · (try rw [h5]); (try simp only [decide_eq_true_eq, decide_eq_false_iff_not, Bool.not_eq_true', Bool.not_eq_false', Int.not_lt, Int.not_le, Bool.not_true, Bool.not_false, Int.toNat_natCast, bne_iff_ne, beq_iff_eq, beq_eq_false_iff_ne, ne_eq, Decidable.not_not] at h5)
            refine AWp_seq ?_
            -- region 11 num.go:75
            refine AWp_regL ?_
            refine st rfl rfl rfl (op_buildP (cs := [_, _, _]) [(0, 1), (1, 1), (2, 1)] rfl Tryd.underlying24 Tryd.zeroValue24 ⟨rfl, Tryd.sizeOf4, ⟨rfl, Tryd.sizeOf9, ⟨rfl, Tryd.sizeOf3, trivial⟩⟩⟩ rfl rfl) ?_
            refine st rfl rfl rfl (op_makeInterface rfl Tryd.underlying41 (by intro ms h; cases h) rfl) ?_
            refine stN rfl rfl ((by first | exact op_storeO (r := [_, _, _]) rfl Tryd.sizeOf24 rfl rfl rfl rfl rfl (by decide) | exact op_storeP (r := [_, _, _]) rfl Tryd.sizeOf24 rfl rfl rfl (by assumption) rfl (by decide))) ?_
            refine st rfl rfl rfl (op_assignO rfl rfl) ?_
            refine AOps_nil ?_
            refine AWp_ret ?_
            (try simp only [blockQ, thenQ])
            rw [pNum_large hok (fun k => h2 (ba_nil.2 k)) (.inr (.inr (by unfold pX; omega)))]; exact RQ_ret (rkvs_cons (rkv_ck rfl rfl rfl) (rkvs_cons (rkv_t rfl) rfl)) hcl (cerr_lt _ ({} : JNum) 5) (Ret_of rfl)
          · (try rw [h5]); (try simp only [decide_eq_true_eq, decide_eq_false_iff_not, Bool.not_eq_true', Bool.not_eq_false', Int.not_lt, Int.not_le, Bool.not_true, Bool.not_false, Int.toNat_natCast, bne_iff_ne, beq_iff_eq, beq_eq_false_iff_ne, ne_eq, Decidable.not_not] at h5)
            refine AWp_skip ?_
            refine AWp_seq ?_
            -- region 12 num.go:77
            refine AWp_regL ?_
            refine st rfl rfl rfl (op_loadK (cs := [_, _, _]) rfl Tryd.isAgg24 Tryd.sizeOf24 (by first | exact ldv_own rfl rfl | exact ldv_pp rfl | exact ldv_old (by assumption) rfl | exact ldv_ptr (by assumption) rfl)) ?_
            refine stN rfl rfl ((by first | exact op_storeO (r := [_, _, _]) rfl Tryd.sizeOf24 rfl rfl rfl rfl rfl (by decide) | exact op_storeP (r := [_, _, _]) rfl Tryd.sizeOf24 rfl rfl rfl (by assumption) rfl (by decide))) ?_
            refine st rfl rfl rfl (op_assignO rfl rfl) ?_
            refine AOps_nil ?_
            refine AWp_ret ?_
            (try simp only [blockQ, thenQ])
            rw [pNum_some hok (fun k => h2 (ba_nil.2 k)) (by rw [pX_eq]; omega), pX_eq]; exact RQ_ret (rkvs_cons (rkv_ck rfl rfl rfl) (rkvs_cons (rkv_t rfl) rfl)) hcl (cerr_lt _ ⟨_, _, _⟩ 0) (Ret_of rfl)

end Lg
namespace Lg
open Go Go.RowKit
variable [GLay]
variable {P : Program} {N : Nat} {σ l τ : List AO} {e : Env} {Q : QA} {p : Nat} {x : AO} {o : Oper}
theorem get_ownT {n : Nat} (h : τ.length = n) (k : Nat) : (τ ++ l)[n + k]? = l[k]? := by
  subst h
  rw [List.getElem?_append_right (by omega)]; congr 1; omega
theorem set_ownT {n : Nat} (h : τ.length = n) (k : Nat) (y : AO) : (τ ++ l).set (n + k) y = τ ++ l.set k y := by
  subst h
  rw [List.set_append_right _ _ (by omega)]; congr 2; omega
/-- append to an array of the call's own, objects ahead of it. -/
theorem op_appendArrT {n0 : Nat} (hτ : τ.length = n0) (k : Nat) {a b : Operand} {t u E : TypeId} {i : TypeInfo} {z : Value} {d : TypeDesc} {sz m gg len : Nat} {cs cs0 : List AV} (ho : o.op = .call { callee := .builtin .append, args := #[a, b], argTypes := #[t, u] })
    (hd : d = .string ∨ ∃ E', d = .slice E') (ht : P.underlying t = some (.slice E)) (hu : P.underlying u = some d) (hi : P.info? E = some i) (hz : i.zero = some z) (hsz : i.size = sz) (hzs : z.cells.size = sz) (hpos : sz ≠ 0)
    (hx : opv e a = .arr (n0 + k) gg sz 0 len) (hk : l[k]? = some (.arr sz gg cs0)) (hend : len * sz = cs0.length) (hy : srcv (τ ++ l) (opv e b) = some (cs, m)) (hys : szv (opv e b) sz) (h1 : ones cs = true)
    (hby : (len + m) * i.bytes ≤ 140737488355328) (h63 : len + m ≤ 9223372036854775807) (hlen : cs.length = m * sz) :
    AOp P (τ ++ l) e o (.arr (n0 + k) (gg + 1) sz 0 (len + m)) (τ ++ l.set k (.arr sz (gg + 1) (cs0 ++ cs))) := by
  have := op_appendArr (P := P) (σ := τ ++ l) ho hd ht hu hi hz hsz hzs hpos hx (by rw [get_ownT hτ]; exact hk) (by rw [Nat.zero_add]; exact hend) hy hys h1 hby h63 hlen
  rw [Nat.zero_mul, List.drop_zero, set_ownT hτ] at this
  exact this
/-- append to nothing, objects ahead. -/
theorem op_appendNewT {n0 n : Nat} (hτ : τ.length = n0) (hn : l.length = n) {a b : Operand} {t u E : TypeId} {i : TypeInfo} {z : Value} {d : TypeDesc} {sz m : Nat} {cs : List AV} (ho : o.op = .call { callee := .builtin .append, args := #[a, b], argTypes := #[t, u] })
    (hd : d = .string ∨ ∃ E', d = .slice E') (ht : P.underlying t = some (.slice E)) (hu : P.underlying u = some d) (hi : P.info? E = some i) (hz : i.zero = some z) (hsz : i.size = sz) (hzs : z.cells.size = sz) (hpos : sz ≠ 0)
    (hx : opv e a = .nils ∨ opv e a = .sl true sz []) (hy : srcv (τ ++ l) (opv e b) = some (cs, m)) (hys : szv (opv e b) sz) (h1 : ones cs = true) (hby : m * i.bytes ≤ 140737488355328) (h63 : m ≤ 9223372036854775807) (hlen : cs.length = m * sz) :
    AOp P (τ ++ l) e o (.arr (n0 + n) 0 sz 0 m) (τ ++ (l ++ [.arr sz 0 cs])) := by
  have := op_appendNew (P := P) (σ := τ ++ l) ho hd ht hu hi hz hsz hzs hpos hx hy hys h1 hby h63 hlen
  rw [List.length_append, hτ, hn, List.append_assoc] at this
  exact this
theorem op_buildSliceArrT {n0 n : Nat} (hτ : τ.length = n0) (hn : l.length = n) {T : TypeId} {len sz : Nat} {parts : Array (Nat × Operand)} {cs : List AV} (ho : o.op = .buildSlice T len parts) (h : AOp P (τ ++ l) e o (.arr (τ ++ l).length 0 sz 0 len) ((τ ++ l) ++ [.arr sz 0 cs])) :
    AOp P (τ ++ l) e o (.arr (n0 + n) 0 sz 0 len) (τ ++ (l ++ [.arr sz 0 cs])) := by
  rw [List.length_append, hτ, hn, List.append_assoc] at h
  exact h
/-- An empty composite literal. -/
theorem op_buildSlice0 {T E : TypeId} {sz : Nat} (ho : o.op = .buildSlice T 0 #[]) (hu : P.underlying T = some (.slice E)) (hsz : ∀ w, (Go.sizeOf E).run P w = Result.ok sz w) : AOp P σ e o (.sl true sz []) σ := by
  intro s a hs g hv K Q hk _
  subst hs
  obtain ⟨s', e1, e2, g', x', hok⟩ := g.row [] E
  refine wp_value (w' := s'.w) ?_ (hk _ (.slice (some ⟨s.w.heap.size, 0, none⟩) 0 0) s' ⟨rfl, e1⟩ g' x' (.sl0 true sz _))
  rw [e2]
  simp only [execOp, ho, Instr.buildSlice, Sem.run_bind, run_underlying hu, hsz, Result.andThen_ok, Sem.run_ite, Nat.zero_mul, if_true, Sem.run_pure]
  rw [if_neg (by omega)]
  simp [newRow, newObj, Sem.run, Instr.fill]
  congr 2
  exact Array.eq_empty_of_size_eq_zero (by simp)
theorem srcv_arrT {n0 : Nat} (hτ : τ.length = n0) (k : Nat) {g sz len : Nat} {cs : List AV} (hk : l[k]? = some (.arr sz g cs)) (hl : cs.length = len * sz) : srcv (τ ++ l) (.arr (n0 + k) g sz 0 len) = some (cs, len) := by
  have h1 : ∀ (n : Nat) (c : List AV), c.length = n → tk n c = some c := by
    intro n
    induction n with
    | zero => intro c hc; have : c = [] := List.eq_nil_of_length_eq_zero hc; subst this; rfl
    | succ n ih => intro c hc; cases c with
      | nil => simp at hc
      | cons x c => simp only [tk, ih c (by simpa using hc), Option.map_some]
  simp only [srcv, get_ownT hτ, hk, if_true, Nat.zero_mul, List.drop_zero, h1 _ cs hl, Option.map_some]
theorem ones_append (a b : List AV) : ones (a ++ b) = (ones a && ones b) := by
  induction a with
  | nil => rfl
  | cons x a ih => simp only [List.cons_append, ones, ih, Bool.and_assoc]
theorem blockQ_exit {id : Nat} (h : Q .normal e σ) : blockQ id Q (.exit id) e σ := by
  unfold blockQ; simpa using h
theorem callO {f : FuncId} {args : List AV} {v : AV} {y : AO} (k : Nat) (h : ACalls P f args (σ ++ l) (Ret v ((σ ++ l).set (σ.length + k) y))) : ACalls P f args (σ ++ l) (Ret v (σ ++ l.set k y)) := by
  rwa [set_ownT rfl] at h
theorem AWp_boxLeO {c : Code} (k : Nat) {bs bs' : List AV} (hq : l[k]? = some (.box bs)) (hle : AVleL bs bs') (h : AWp P N c e (σ ++ l.set k (.box bs')) Q) : AWp P N c e (σ ++ l) Q :=
  AWp_boxLe (σ.length + k) (by rw [get_ownT rfl]; exact hq) hle (by rw [set_ownT rfl]; exact h)
theorem len_set : (σ.set p x).length = σ.length := List.length_set
theorem take_ownS (k : Nat) : (σ.set p x ++ l).take (σ.length + k) = σ.set p x ++ l.take k := by
  have := take_own (σ := σ.set p x) (l := l) k
  rwa [List.length_set] at this
theorem closed_ownS (k : Nat) (h : closed σ.length σ) (hx : AV.ltL σ.length x.cells) (hl : ownLt (σ.length + k) (l.take k)) : closed (σ.length + k) (σ.set p x ++ l) := by
  have := closed_own (σ := σ.set p x) (l := l) k (by rw [List.length_set]; exact closed_set h hx) (by rw [List.length_set]; exact hl)
  rwa [List.length_set] at this
end Lg
namespace Lg
open Go Go.RowKit
variable [GLay] {P : Program} {σ : List AO} {e : Env} {o : Oper}
section ifaces
variable {T T' U : TypeId} {x y : Operand} {ms : Array (String × TypeId)} {k k' : IntKind}
theorem run_eqII (w : World) (hu : P.underlying T = some (.interface ms)) (hc : (P.info? U).map (·.comparable) = some true) (hk : P.underlying U = some (.int k')) (a b : Int) :
    (binOp .eql T (.iface U (.int k a)) (.iface U (.int k b))).run P w = .ok (.bool (a == b)) w := by
  obtain ⟨i, hi, hcomp⟩ : ∃ i, P.info? U = some i ∧ i.comparable = true := by
    cases h : P.info? U with
    | none => rw [h] at hc; cases hc
    | some i => rw [h] at hc; exact ⟨i, rfl, by simpa using hc⟩
  have h1 : ∀ d : Nat, (Op.equalIn (d + 1) U (.int k a) (.int k b)).run P w = .ok (a == b) w := fun d => by
    simp [Op.equalIn, run_underlying hk]
  have h2 : ∀ d : Nat, (Op.equalIn (d + 2) T (.iface U (.int k a)) (.iface U (.int k b))).run P w = .ok (a == b) w := fun d => by
    rw [show d + 2 = (d + 1) + 1 from rfl, Op.equalIn]
    simp [run_underlying hu, typeInfo, hi, hcomp, h1 d]
  simp only [binOp]
  simp [Op.equal, Op.maxDepth, h2 9998]
theorem op_eqII {a b : Int} (ho : o.op = .binOp .eql T x y T') (hu : P.underlying T = some (.interface ms)) (hc : (P.info? U).map (·.comparable) = some true) (hk : P.underlying U = some (.int k'))
    (hx : opv e x = .iface U (.int k a)) (hy : opv e y = .iface U (.int k b)) : AOp P σ e o (.bool (decide (a = b))) σ :=
  op_bin ho hx hy fun s cx cy _ _ h1 h2 => by
    obtain ⟨u, rfl, hu1⟩ := h1.inv_iface
    obtain ⟨u2, rfl, hu2⟩ := h2.inv_iface
    rw [hu1.inv_int, hu2.inv_int]
    refine ⟨_, run_eqII s.w hu hc hk a b, ?_, ?_⟩
    · rw [show (a == b) = decide (a = b) from rfl]; exact .bool _
    · simp [eqGuard]
end ifaces
section more
variable {T T' : TypeId} {x y : Operand}
theorem op_eqSR {fs : Array Field} {cs ds : List AV} {r r' : Bool} (ho : o.op = .binOp .eql T x y T') (hu : P.underlying T = some (.struct fs)) (hp : P.stoodInHeld T = false) (hm : P.eqGuardType P.depth T = false)
    (h : FEq P 0 fs.toList cs ds r) (hx : opv e x = .agg cs) (hy : opv e y = .agg ds) (hr : r = r') : AOp P σ e o (.bool r') σ := by
  have := op_eqS (P := P) (σ := σ) ho hu hp hm h hx hy; rwa [hr] at this
theorem op_neSR {fs : Array Field} {cs ds : List AV} {r : Bool} (ho : o.op = .binOp .neq T x y T') (hu : P.underlying T = some (.struct fs)) (hp : P.stoodInHeld T = false) (hm : P.eqGuardType P.depth T = false)
    (h : FEq P 0 fs.toList cs ds r) (hx : opv e x = .agg cs) (hy : opv e y = .agg ds) (hr : r = true) : AOp P σ e o (.bool false) σ := by
  have := op_neS (P := P) (σ := σ) ho hu hp hm h hx hy; rwa [hr] at this
theorem op_eqlD {k : IntKind} {a b : Int} {q : Prop} (ho : o.op = .binOp .eql T x y T') (hx : opv e x = .int k a) (hy : opv e y = .int k b) (h : a = b ↔ q) : AOp P σ e o (.bool (pb q)) σ := by
  have := op_eql (P := P) (σ := σ) ho hx hy
  by_cases hq : q
  · rw [pb_t hq]; rwa [decide_eq_true (h.2 hq)] at this
  · rw [pb_f hq]; rwa [decide_eq_false (fun k => hq (h.1 k))] at this
theorem op_seqT {a b : ByteArray} (ho : o.op = .binOp .eql T x y T') (hx : opv e x = .str a) (hy : opv e y = .str b) (h : a = b) : AOp P σ e o (.bool true) σ := by
  have := op_seql (P := P) (σ := σ) ho hx hy; rwa [decide_eq_true h] at this
theorem op_bneqS {a : Bool} (ho : o.op = .binOp .neq T x y T') (hu : P.underlying T = some .bool) (hx : opv e x = .bool a) (hy : opv e y = .bool a) : AOp P σ e o (.bool false) σ := by
  have := op_bneq (P := P) (σ := σ) ho hu hx hy
  rwa [bne_self_eq_false] at this
end more
end Lg
set_option maxRecDepth 20000
set_option maxHeartbeats 4000000
namespace Lg
open Go Go.Proofs Go.RowKit
variable [GLay] [S10]


theorem pshow_c (n : JNum) (σ : List AO) (hb : n.digits.size ≤ 1000000 ∧ -1000000 ≤ n.exp ∧ n.exp ≤ 1000000) : ACalls Tryd.prog 11 [.agg (ncells n)] σ (Ret (.str (jshow n)) σ) := by
  refine ACalls_body Tryd.func11 rfl Tryd.ntmps11 (res1 Tryd.results11) (Nat.le_of_ble_eq_true rfl) (fun hcl hal => ?_)
  have h1s : (ByteArray.mk #[45]).size = 1 := rfl
  have h2s : (ByteArray.mk #[101]).size = 1 := rfl
  have hsz := itoa_size (n := n.exp) (by omega) (by omega)
  have hsa := ByteArray.size_append (a := (⟨#[45]⟩ : ByteArray)) (b := n.digits)
  have hsb := ByteArray.size_append (a := n.digits) (b := (⟨#[101]⟩ : ByteArray))
  have hsc := ByteArray.size_append (a := (⟨#[45]⟩ : ByteArray) ++ n.digits) (b := (⟨#[101]⟩ : ByteArray))
  have hsd := ByteArray.size_append (a := (⟨#[101]⟩ : ByteArray)) (b := itoaB n.exp)
  refine AWp_seq ?_
  -- region 0 num.go:81
  refine AWp_regL ?_
  refine st rfl rfl rfl (op_box0 (cs := [_, _, _]) rfl rfl rfl) ?_
  refine st rfl rfl rfl (op_assignO rfl rfl) ?_
  refine AOps_nil ?_
  refine AWp_seq ?_
  refine AWp_seq ?_
  -- region 1 num.go:82
  refine AWp_regL ?_
  refine st rfl rfl rfl (op_fieldAddrO (fo := 1) rfl Tryd.underlying24 rfl rfl Tryd.sizeOf9 (by decide) rfl trivial) ?_
  refine st rfl rfl rfl (op_load1 rfl Tryd.isAgg9 (by first | exact ldv_own rfl rfl | exact ldv_pp rfl | exact ldv_old (by assumption) rfl | exact ldv_ptr (by assumption) rfl)) ?_
  refine st rfl rfl rfl (op_seql rfl rfl rfl) ?_
  refine AOps_nil ?_
  refine AWp_cond rfl (fun h1 => ?_) (fun h1 => ?_)
  · (try rw [h1]); (try simp only [decide_eq_true_eq, decide_eq_false_iff_not, Bool.not_eq_true', Bool.not_eq_false', Int.not_lt, Int.not_le, Bool.not_true, Bool.not_false, Int.toNat_natCast, bne_iff_ne, beq_iff_eq, beq_eq_false_iff_ne, ne_eq, Decidable.not_not] at h1)
    refine AWp_seq ?_
    -- region 2 num.go:83
    refine AWp_regL ?_
    refine st rfl rfl rfl (op_assignO rfl rfl) ?_
    refine AOps_nil ?_
    refine AWp_ret ?_
    (try simp only [blockQ, thenQ])
    refine ResQ_1 rfl hcl trivial (Ret_of ?_)
    unfold jshow; (try simp only [opv, Env.look, lookL]); (try simp only [← ByteArray.append_assoc]); first | (rw [if_pos (by assumption)]; done) | (rw [if_neg (by assumption), if_pos (by assumption), if_pos (by assumption)]; done) | (rw [if_neg (by assumption), if_pos (by assumption), if_neg (by simp [*])]; done) | (rw [if_neg (by assumption), if_neg (by assumption), if_pos (by assumption)]; done) | (rw [if_neg (by assumption), if_neg (by assumption), if_neg (by simp [*])]; done)
  · (try rw [h1]); (try simp only [decide_eq_true_eq, decide_eq_false_iff_not, Bool.not_eq_true', Bool.not_eq_false', Int.not_lt, Int.not_le, Bool.not_true, Bool.not_false, Int.toNat_natCast, bne_iff_ne, beq_iff_eq, beq_eq_false_iff_ne, ne_eq, Decidable.not_not] at h1)
    refine AWp_skip ?_
    refine AWp_seq ?_
    -- region 3 num.go:85
    refine AWp_regL ?_
    refine st rfl rfl rfl (op_fieldAddrO (fo := 1) rfl Tryd.underlying24 rfl rfl Tryd.sizeOf9 (by decide) rfl trivial) ?_
    refine st rfl rfl rfl (op_load1 rfl Tryd.isAgg9 (by first | exact ldv_own rfl rfl | exact ldv_pp rfl | exact ldv_old (by assumption) rfl | exact ldv_ptr (by assumption) rfl)) ?_
    refine st rfl rfl rfl (op_assignO rfl rfl) ?_
    refine AOps_nil ?_
    refine AWp_seq ?_
    refine AWp_seq ?_
    -- region 4 num.go:86
    refine AWp_regL ?_
    refine st rfl rfl rfl (op_fieldAddrO (fo := 0) rfl Tryd.underlying24 rfl rfl Tryd.sizeOf4 (by decide) rfl trivial) ?_
    refine st rfl rfl rfl (op_load1 rfl Tryd.isAgg4 (by first | exact ldv_own rfl rfl | exact ldv_pp rfl | exact ldv_old (by assumption) rfl | exact ldv_ptr (by assumption) rfl)) ?_
    refine AOps_nil ?_
    refine AWp_cond rfl (fun h2 => ?_) (fun h2 => ?_)
    · (try rw [h2]); (try simp only [decide_eq_true_eq, decide_eq_false_iff_not, Bool.not_eq_true', Bool.not_eq_false', Int.not_lt, Int.not_le, Bool.not_true, Bool.not_false, Int.toNat_natCast, bne_iff_ne, beq_iff_eq, beq_eq_false_iff_ne, ne_eq, Decidable.not_not] at h2)
      -- region 5 num.go:87
      refine AWp_regL ?_
      refine st rfl rfl rfl (op_moveO rfl rfl) ?_
      refine st rfl rfl rfl (op_cat rfl rfl rfl (by omega)) ?_
      refine st rfl rfl rfl (op_assignO rfl rfl) ?_
      refine AOps_nil ?_
      refine AWp_seq ?_
      refine AWp_seq ?_
      -- region 6 num.go:89
      refine AWp_regL ?_
      refine st rfl rfl rfl (op_fieldAddrO (fo := 2) rfl Tryd.underlying24 rfl rfl Tryd.sizeOf3 (by decide) rfl trivial) ?_
      refine st rfl rfl rfl (op_load1 rfl Tryd.isAgg3 (by first | exact ldv_own rfl rfl | exact ldv_pp rfl | exact ldv_old (by assumption) rfl | exact ldv_ptr (by assumption) rfl)) ?_
      refine st rfl rfl rfl (op_neq rfl rfl rfl) ?_
      refine AOps_nil ?_
      refine AWp_cond rfl (fun h3 => ?_) (fun h3 => ?_)
      · (try rw [h3]); (try simp only [decide_eq_true_eq, decide_eq_false_iff_not, Bool.not_eq_true', Bool.not_eq_false', Int.not_lt, Int.not_le, Bool.not_true, Bool.not_false, Int.toNat_natCast, bne_iff_ne, beq_iff_eq, beq_eq_false_iff_ne, ne_eq, Decidable.not_not] at h3)
        -- region 7 num.go:90
        refine AWp_regL ?_
        refine st rfl rfl rfl (op_moveO rfl rfl) ?_
        refine st rfl rfl rfl (op_fieldAddrO (fo := 2) rfl Tryd.underlying24 rfl rfl Tryd.sizeOf3 (by decide) rfl trivial) ?_
        refine st rfl rfl rfl (op_load1 rfl Tryd.isAgg3 (by first | exact ldv_own rfl rfl | exact ldv_pp rfl | exact ldv_old (by assumption) rfl | exact ldv_ptr (by assumption) rfl)) ?_
        refine st rfl rfl rfl (op_callF rfl rfl rfl Tryd.func24 rfl rfl (itoa_c n.exp _ (by omega) (by omega))) ?_
        refine st rfl rfl rfl (op_cat rfl rfl rfl (by omega)) ?_
        refine st rfl rfl rfl (op_cat rfl rfl rfl (by omega)) ?_
        refine st rfl rfl rfl (op_assignO rfl rfl) ?_
        refine AOps_nil ?_
        refine AWp_seq ?_
        -- region 8 num.go:92
        refine AWp_regL ?_
        refine st rfl rfl rfl (op_moveO rfl rfl) ?_
        refine st rfl rfl rfl (op_assignO rfl rfl) ?_
        refine AOps_nil ?_
        refine AWp_ret ?_
        (try simp only [blockQ, thenQ])
        refine ResQ_1 rfl hcl trivial (Ret_of ?_)
        unfold jshow; (try simp only [opv, Env.look, lookL]); (try simp only [← ByteArray.append_assoc]); first | (rw [if_pos (by assumption)]; done) | (rw [if_neg (by assumption), if_pos (by assumption), if_pos (by assumption)]; done) | (rw [if_neg (by assumption), if_pos (by assumption), if_neg (by simp [*])]; done) | (rw [if_neg (by assumption), if_neg (by assumption), if_pos (by assumption)]; done) | (rw [if_neg (by assumption), if_neg (by assumption), if_neg (by simp [*])]; done)
      · (try rw [h3]); (try simp only [decide_eq_true_eq, decide_eq_false_iff_not, Bool.not_eq_true', Bool.not_eq_false', Int.not_lt, Int.not_le, Bool.not_true, Bool.not_false, Int.toNat_natCast, bne_iff_ne, beq_iff_eq, beq_eq_false_iff_ne, ne_eq, Decidable.not_not] at h3)
        refine AWp_skip ?_
        refine AWp_seq ?_
        -- region 8 num.go:92
        refine AWp_regL ?_
        refine st rfl rfl rfl (op_moveO rfl rfl) ?_
        refine st rfl rfl rfl (op_assignO rfl rfl) ?_
        refine AOps_nil ?_
        refine AWp_ret ?_
        (try simp only [blockQ, thenQ])
        refine ResQ_1 rfl hcl trivial (Ret_of ?_)
        unfold jshow; (try simp only [opv, Env.look, lookL]); (try simp only [← ByteArray.append_assoc]); first | (rw [if_pos (by assumption)]; done) | (rw [if_neg (by assumption), if_pos (by assumption), if_pos (by assumption)]; done) | (rw [if_neg (by assumption), if_pos (by assumption), if_neg (by simp [*])]; done) | (rw [if_neg (by assumption), if_neg (by assumption), if_pos (by assumption)]; done) | (rw [if_neg (by assumption), if_neg (by assumption), if_neg (by simp [*])]; done)
    · (try rw [h2]); (try simp only [decide_eq_true_eq, decide_eq_false_iff_not, Bool.not_eq_true', Bool.not_eq_false', Int.not_lt, Int.not_le, Bool.not_true, Bool.not_false, Int.toNat_natCast, bne_iff_ne, beq_iff_eq, beq_eq_false_iff_ne, ne_eq, Decidable.not_not] at h2)
      refine AWp_skip ?_
      refine AWp_seq ?_
      refine AWp_seq ?_
      -- region 6 num.go:89
      refine AWp_regL ?_
      refine st rfl rfl rfl (op_fieldAddrO (fo := 2) rfl Tryd.underlying24 rfl rfl Tryd.sizeOf3 (by decide) rfl trivial) ?_
      refine st rfl rfl rfl (op_load1 rfl Tryd.isAgg3 (by first | exact ldv_own rfl rfl | exact ldv_pp rfl | exact ldv_old (by assumption) rfl | exact ldv_ptr (by assumption) rfl)) ?_
      refine st rfl rfl rfl (op_neq rfl rfl rfl) ?_
      refine AOps_nil ?_
      refine AWp_cond rfl (fun h4 => ?_) (fun h4 => ?_)
      · (try rw [h4]); (try simp only [decide_eq_true_eq, decide_eq_false_iff_not, Bool.not_eq_true', Bool.not_eq_false', Int.not_lt, Int.not_le, Bool.not_true, Bool.not_false, Int.toNat_natCast, bne_iff_ne, beq_iff_eq, beq_eq_false_iff_ne, ne_eq, Decidable.not_not] at h4)
        -- region 7 num.go:90
        refine AWp_regL ?_
        refine st rfl rfl rfl (op_moveO rfl rfl) ?_
        refine st rfl rfl rfl (op_fieldAddrO (fo := 2) rfl Tryd.underlying24 rfl rfl Tryd.sizeOf3 (by decide) rfl trivial) ?_
        refine st rfl rfl rfl (op_load1 rfl Tryd.isAgg3 (by first | exact ldv_own rfl rfl | exact ldv_pp rfl | exact ldv_old (by assumption) rfl | exact ldv_ptr (by assumption) rfl)) ?_
        refine st rfl rfl rfl (op_callF rfl rfl rfl Tryd.func24 rfl rfl (itoa_c n.exp _ (by omega) (by omega))) ?_
        refine st rfl rfl rfl (op_cat rfl rfl rfl (by omega)) ?_
        refine st rfl rfl rfl (op_cat rfl rfl rfl (by omega)) ?_
        refine st rfl rfl rfl (op_assignO rfl rfl) ?_
        refine AOps_nil ?_
        refine AWp_seq ?_
        -- region 8 num.go:92
        refine AWp_regL ?_
        refine st rfl rfl rfl (op_moveO rfl rfl) ?_
        refine st rfl rfl rfl (op_assignO rfl rfl) ?_
        refine AOps_nil ?_
        refine AWp_ret ?_
        (try simp only [blockQ, thenQ])
        refine ResQ_1 rfl hcl trivial (Ret_of ?_)
        unfold jshow; (try simp only [opv, Env.look, lookL]); (try simp only [← ByteArray.append_assoc]); first | (rw [if_pos (by assumption)]; done) | (rw [if_neg (by assumption), if_pos (by assumption), if_pos (by assumption)]; done) | (rw [if_neg (by assumption), if_pos (by assumption), if_neg (by simp [*])]; done) | (rw [if_neg (by assumption), if_neg (by assumption), if_pos (by assumption)]; done) | (rw [if_neg (by assumption), if_neg (by assumption), if_neg (by simp [*])]; done)
      · (try rw [h4]); (try simp only [decide_eq_true_eq, decide_eq_false_iff_not, Bool.not_eq_true', Bool.not_eq_false', Int.not_lt, Int.not_le, Bool.not_true, Bool.not_false, Int.toNat_natCast, bne_iff_ne, beq_iff_eq, beq_eq_false_iff_ne, ne_eq, Decidable.not_not] at h4)
        refine AWp_skip ?_
        refine AWp_seq ?_
        -- region 8 num.go:92
        refine AWp_regL ?_
        refine st rfl rfl rfl (op_moveO rfl rfl) ?_
        refine st rfl rfl rfl (op_assignO rfl rfl) ?_
        refine AOps_nil ?_
        refine AWp_ret ?_
        (try simp only [blockQ, thenQ])
        refine ResQ_1 rfl hcl trivial (Ret_of ?_)
        unfold jshow; (try simp only [opv, Env.look, lookL]); (try simp only [← ByteArray.append_assoc]); first | (rw [if_pos (by assumption)]; done) | (rw [if_neg (by assumption), if_pos (by assumption), if_pos (by assumption)]; done) | (rw [if_neg (by assumption), if_pos (by assumption), if_neg (by simp [*])]; done) | (rw [if_neg (by assumption), if_neg (by assumption), if_pos (by assumption)]; done) | (rw [if_neg (by assumption), if_neg (by assumption), if_neg (by simp [*])]; done)

end Lg
