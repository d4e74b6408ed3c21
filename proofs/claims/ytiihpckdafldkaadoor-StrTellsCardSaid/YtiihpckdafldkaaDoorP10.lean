/- A part of the proof of StrTells: the text that stands in quotes at any place of any bytes, or what is amiss, where; any text in quotes: W16 B13 VSt. -/
import Derived.Test.YtiihpckdafldkaaDoorP8
import Derived.Test.YtiihpckdafldkaaDoorP9
import Derived.Test.YtiihpckdafldkaaDoorP5
import Derived.Test.YtiihpckdafldkaaDoorP7
import Derived.Test.YtiihpckdafldkaaDoorP3
import Derived.Test.YtiihpckdafldkaaDoorProg
set_option linter.unusedVariables false
set_option linter.unusedSimpArgs false
set_option linter.unusedSectionVars false
set_option maxRecDepth 20000
set_option maxHeartbeats 4000000
namespace Lg
open Go Go.Proofs Go.RowKit
variable [GLay] 


theorem unq_c (s : ByteArray) (a : Int) (σ : List AO) (hs : s.size ≤ 1000000) : ACalls Tryd.prog 22 [.str s, .int .i64 a] σ (Ret (.tup [.str (rUnq s a).s, .int .i64 (rUnq s a).n, .int .i64 (rUnq s a).bad, .int .i64 (rUnq s a).at_]) σ) := by
  refine ACalls_body Tryd.func22 rfl Tryd.ntmps22 (res4 Tryd.results22) (Nat.le_of_ble_eq_true rfl) (fun hcl hal => ?_)
  refine AWp_seq ?_
  -- region 0 ref.go:314
  refine AWp_regL ?_
  refine st rfl rfl rfl (op_assignO rfl rfl) ?_
  refine st rfl rfl rfl (op_assignO rfl rfl) ?_
  refine st rfl rfl rfl (op_assignO rfl rfl) ?_
  refine st rfl rfl rfl (op_assignO rfl rfl) ?_
  refine AOps_nil ?_
  refine AWp_seq ?_
  refine AWp_seq ?_
  -- region 1 ref.go:315
  refine AWp_regL ?_
  have hz : (e0).size = 0 := rfl
  refine st rfl rfl rfl (op_moveO rfl rfl) ?_
  refine st rfl rfl rfl (op_lss rfl rfl rfl) ?_
  refine st rfl rfl rfl (op_moveO rfl rfl) ?_
  refine AOps_split 21 rfl (fun h1 => ?_) (fun h1 => ?_)
  · rw [h1]; (try simp only [decide_eq_true_eq, decide_eq_false_iff_not, Bool.not_eq_true', Bool.not_eq_false', Int.not_lt, Int.not_le, Bool.not_true, Bool.not_false, Int.toNat_natCast, tn1, tn2, tnn, bne_iff_ne, beq_iff_eq, beq_eq_false_iff_ne, ne_eq, Decidable.not_not] at h1)
    refine stS rfl rfl rfl (.inl rfl) rfl rfl ?_
    refine stS rfl rfl rfl (.inl rfl) rfl rfl ?_
    refine stS rfl rfl rfl (.inl rfl) rfl rfl ?_
    refine stS rfl rfl rfl (.inl rfl) rfl rfl ?_
    refine st rfl rfl rfl (op_pickTO rfl rfl rfl) ?_
    refine AOps_nil ?_
    refine AWp_condT rfl ?_
    refine AWp_seq ?_
    -- region 2 ref.go:316
    refine AWp_regL ?_
    refine st rfl rfl rfl (op_moveO rfl rfl) ?_
    refine st rfl rfl rfl (op_assignO rfl rfl) ?_
    refine st rfl rfl rfl (op_assignO rfl rfl) ?_
    refine st rfl rfl rfl (op_assignO rfl rfl) ?_
    refine st rfl rfl rfl (op_assignO rfl rfl) ?_
    refine AOps_nil ?_
    refine AWp_ret ?_
    (try simp only [blockQ, thenQ])
    have hE : rUnq s a = ⟨e0, 0, 1, a⟩ := by unfold rUnq; rw [if_pos (by omega)]
    rw [hE]; exact ResQ_40 rfl rfl rfl rfl hcl (by simp [AV.lt, AV.ltL]) (Ret_of rfl)
  · rw [h1]; (try simp only [decide_eq_true_eq, decide_eq_false_iff_not, Bool.not_eq_true', Bool.not_eq_false', Int.not_lt, Int.not_le, Bool.not_true, Bool.not_false, Int.toNat_natCast, tn1, tn2, tnn, bne_iff_ne, beq_iff_eq, beq_eq_false_iff_ne, ne_eq, Decidable.not_not] at h1)
    refine stG rfl rfl rfl rfl rfl rfl (op_moveO rfl rfl) ?_
    refine stG rfl rfl rfl rfl rfl rfl (op_moveO rfl rfl) ?_
    refine stG rfl rfl rfl rfl rfl rfl (op_lenStr rfl rfl Tryd.underlying9 rfl) ?_
    refine stG rfl rfl rfl rfl rfl rfl (op_geq rfl rfl rfl) ?_
    refine st rfl rfl rfl (op_pickFO rfl rfl rfl) ?_
    refine AOps_nil ?_
    refine AWp_cond rfl (fun h2 => ?_) (fun h2 => ?_)
    · (try rw [h2]); (try simp only [decide_eq_true_eq, decide_eq_false_iff_not, Bool.not_eq_true', Bool.not_eq_false', Int.not_lt, Int.not_le, Bool.not_true, Bool.not_false, Int.toNat_natCast, tn1, tn2, tnn, bne_iff_ne, beq_iff_eq, beq_eq_false_iff_ne, ne_eq, Decidable.not_not] at h2)
      refine AWp_seq ?_
      -- region 2 ref.go:316
      refine AWp_regL ?_
      refine st rfl rfl rfl (op_moveO rfl rfl) ?_
      refine st rfl rfl rfl (op_assignO rfl rfl) ?_
      refine st rfl rfl rfl (op_assignO rfl rfl) ?_
      refine st rfl rfl rfl (op_assignO rfl rfl) ?_
      refine st rfl rfl rfl (op_assignO rfl rfl) ?_
      refine AOps_nil ?_
      refine AWp_ret ?_
      (try simp only [blockQ, thenQ])
      have hE : rUnq s a = ⟨e0, 0, 1, a⟩ := by unfold rUnq; rw [if_pos (by omega)]
      rw [hE]; exact ResQ_40 rfl rfl rfl rfl hcl (by simp [AV.lt, AV.ltL]) (Ret_of rfl)
    · (try rw [h2]); (try simp only [decide_eq_true_eq, decide_eq_false_iff_not, Bool.not_eq_true', Bool.not_eq_false', Int.not_lt, Int.not_le, Bool.not_true, Bool.not_false, Int.toNat_natCast, tn1, tn2, tnn, bne_iff_ne, beq_iff_eq, beq_eq_false_iff_ne, ne_eq, Decidable.not_not] at h2)
      refine AWp_skip ?_
      refine AWp_seq ?_
      refine AWp_seq ?_
      -- region 3 ref.go:318
      refine AWp_regL ?_
      refine st rfl rfl rfl (op_moveO rfl rfl) ?_
      refine st rfl rfl rfl (op_moveO rfl rfl) ?_
      refine st rfl rfl rfl (op_index_strB rfl Tryd.underlying9 rfl rfl (by omega) (by omega)) ?_
      refine st rfl rfl rfl (op_neq rfl rfl rfl) ?_
      refine AOps_nil ?_
      refine AWp_cond rfl (fun h3 => ?_) (fun h3 => ?_)
      · (try rw [h3]); (try simp only [decide_eq_true_eq, decide_eq_false_iff_not, Bool.not_eq_true', Bool.not_eq_false', Int.not_lt, Int.not_le, Bool.not_true, Bool.not_false, Int.toNat_natCast, tn1, tn2, tnn, bne_iff_ne, beq_iff_eq, beq_eq_false_iff_ne, ne_eq, Decidable.not_not] at h3)
        refine AWp_seq ?_
        -- region 4 ref.go:319
        refine AWp_regL ?_
        refine st rfl rfl rfl (op_moveO rfl rfl) ?_
        refine st rfl rfl rfl (op_assignO rfl rfl) ?_
        refine st rfl rfl rfl (op_assignO rfl rfl) ?_
        refine st rfl rfl rfl (op_assignO rfl rfl) ?_
        refine st rfl rfl rfl (op_assignO rfl rfl) ?_
        refine AOps_nil ?_
        refine AWp_ret ?_
        (try simp only [blockQ, thenQ])
        have hE : rUnq s a = ⟨e0, 0, 1, a⟩ := by unfold rUnq; rw [if_neg (by omega), if_pos (by omega)]
        rw [hE]; exact ResQ_40 rfl rfl rfl rfl hcl (by simp [AV.lt, AV.ltL]) (Ret_of rfl)
      · (try rw [h3]); (try simp only [decide_eq_true_eq, decide_eq_false_iff_not, Bool.not_eq_true', Bool.not_eq_false', Int.not_lt, Int.not_le, Bool.not_true, Bool.not_false, Int.toNat_natCast, tn1, tn2, tnn, bne_iff_ne, beq_iff_eq, beq_eq_false_iff_ne, ne_eq, Decidable.not_not] at h3)
        refine AWp_skip ?_
        refine AWp_seq ?_
        -- region 5 ref.go:321
        refine AWp_regL ?_
        refine st rfl rfl rfl (op_assignO rfl rfl) ?_
        refine AOps_nil ?_
        refine AWp_seq ?_
        -- region 6 ref.go:322
        refine AWp_regL ?_
        refine st rfl rfl rfl (op_moveO rfl rfl) ?_
        refine st rfl rfl rfl (op_add64 rfl rfl rfl (by omega) (by omega)) ?_
        refine st rfl rfl rfl (op_assignO rfl rfl) ?_
        refine AOps_nil ?_
        refine AWp_seq ?_
        refine AWp_block ?_
        -- loop 0 LIVE 0:param 1:param 4:assign 5:assign 6:assign 7:assign 8:assign 9:assign
        refine AWp_loop (ι := Nat × ByteArray) (fun q => unqF s a.toNat q.1 q.2 = rUnq s a ∧ a.toNat < q.1 ∧ q.1 ≤ s.size ∧ q.2.size ≤ q.1) (fun q => ⟨[], [(0, .str s), (1, .int .i64 a), (8, .str q.2), (9, .int .i64 (q.1 : Int))]⟩) (fun q => σ) (fun q => s.size - q.1) ((a.toNat + 1, e0)) (⟨by unfold rUnq; rw [if_neg (by omega), if_neg (by omega)], by simp only; omega, by simp only; omega, by simp only; omega⟩) ?_ rfl (fun q hq => ?_)
        · refine ⟨rfl, rfl, rfl, rfl, ?_, trivial⟩
          simp only [Int.natCast_add, Int.toNat_of_nonneg (show 0 ≤ a by omega)]; rfl
        obtain ⟨i, out⟩ := q
        obtain ⟨hq1, hq2, hq3, hq4⟩ := hq
        simp only at hq1 hq2 hq3 hq4 ⊢
        have hbl := bat_lt s i
        refine AWp_seq ?_
        refine AWp_seq ?_
        -- region 7 ref.go:323
        refine AWp_regL ?_
        refine st rfl rfl rfl (op_moveO rfl rfl) ?_
        refine st rfl rfl rfl (op_moveO rfl rfl) ?_
        refine st rfl rfl rfl (op_lenStr rfl rfl Tryd.underlying9 rfl) ?_
        refine st rfl rfl rfl (op_lss rfl rfl rfl) ?_
        refine AOps_nil ?_
        refine AWp_cond rfl (fun h4 => ?_) (fun h4 => ?_)
        · (try rw [h4]); (try simp only [decide_eq_true_eq, decide_eq_false_iff_not, Bool.not_eq_true', Bool.not_eq_false', Int.not_lt, Int.not_le, Bool.not_true, Bool.not_false, Int.toNat_natCast, tn1, tn2, tnn, bne_iff_ne, beq_iff_eq, beq_eq_false_iff_ne, ne_eq, Decidable.not_not] at h4)
          refine AWp_skip ?_
          refine AWp_block ?_
          refine AWp_seq ?_
          -- region 8 ref.go:324
          refine AWp_regL ?_
          refine st rfl rfl rfl (op_moveO rfl rfl) ?_
          refine st rfl rfl rfl (op_moveO rfl rfl) ?_
          refine st rfl rfl rfl (op_index_strB rfl Tryd.underlying9 rfl rfl (by omega) (by omega)) ?_
          simp only [Int.toNat_natCast]
          refine st rfl rfl rfl (op_assignO rfl rfl) ?_
          refine AOps_nil ?_
          refine AWp_seq ?_
          refine AWp_seq ?_
          -- region 9 ref.go:325
          refine AWp_regL ?_
          refine st rfl rfl rfl (op_moveO rfl rfl) ?_
          refine st rfl rfl rfl (op_eql rfl rfl rfl) ?_
          refine AOps_nil ?_
          refine AWp_cond rfl (fun h5 => ?_) (fun h5 => ?_)
          · (try rw [h5]); (try simp only [decide_eq_true_eq, decide_eq_false_iff_not, Bool.not_eq_true', Bool.not_eq_false', Int.not_lt, Int.not_le, Bool.not_true, Bool.not_false, Int.toNat_natCast, tn1, tn2, tnn, bne_iff_ne, beq_iff_eq, beq_eq_false_iff_ne, ne_eq, Decidable.not_not] at h5)
            refine AWp_seq ?_
            -- region 10 ref.go:326
            refine AWp_regL ?_
            refine st rfl rfl rfl (op_moveO rfl rfl) ?_
            refine st rfl rfl rfl (op_moveO rfl rfl) ?_
            refine st rfl rfl rfl (op_add64 rfl rfl rfl (by omega) (by omega)) ?_
            refine st rfl rfl rfl (op_moveO rfl rfl) ?_
            refine st rfl rfl rfl (op_sub64 rfl rfl rfl (by omega) (by omega)) ?_
            refine st rfl rfl rfl (op_assignO rfl rfl) ?_
            refine st rfl rfl rfl (op_assignO rfl rfl) ?_
            refine st rfl rfl rfl (op_assignO rfl rfl) ?_
            refine st rfl rfl rfl (op_assignO rfl rfl) ?_
            refine AOps_nil ?_
            refine AWp_ret ?_
            (try simp only [blockQ, thenQ])
            first | (exfalso; omega; done) | (rw [← hq1, unqF_q (by omega) (by omega)]; exact ResQ_40 rfl rfl rfl rfl hcl (by simp [AV.lt, AV.ltL]) (Ret_of (by dsimp only; rw [Int.toNat_of_nonneg (show 0 ≤ a by omega)]))) | (rw [← hq1, unqF_ctl (by omega) (by omega)]; exact ResQ_40 rfl rfl rfl rfl hcl (by simp [AV.lt, AV.ltL]) (Ret_of rfl)) | (rw [← hq1, unqF_bad (by omega) (by omega) (by omega) (by omega) (by omega)]; exact ResQ_40 rfl rfl rfl rfl hcl (by simp [AV.lt, AV.ltL]) (Ret_of rfl)) | (rw [← hq1, unqF_last (by omega) (by omega)]; exact ResQ_40 rfl rfl rfl rfl hcl (by simp [AV.lt, AV.ltL]) (Ret_of rfl)) | (rw [← hq1, unqF_hb (by omega) (by omega) (by omega) (by omega)]; exact ResQ_40 rfl rfl rfl rfl hcl (by simp [AV.lt, AV.ltL]) (Ret_of rfl)) | (rw [← hq1, unqF_sur (by omega) (by omega) (by omega) (by omega) (by omega) (by omega)]; exact ResQ_40 rfl rfl rfl rfl hcl (by simp [AV.lt, AV.ltL]) (Ret_of rfl)) | (rw [← hq1, unqF_eb (by omega) (by omega) (by omega) (by assumption)]; exact ResQ_40 rfl rfl rfl rfl hcl (by simp [AV.lt, AV.ltL]) (Ret_of rfl)) | (rw [← hq1, unqF_end (by omega)]; exact ResQ_40 rfl rfl rfl rfl hcl (by simp [AV.lt, AV.ltL]) (Ret_of rfl))
          · (try rw [h5]); (try simp only [decide_eq_true_eq, decide_eq_false_iff_not, Bool.not_eq_true', Bool.not_eq_false', Int.not_lt, Int.not_le, Bool.not_true, Bool.not_false, Int.toNat_natCast, tn1, tn2, tnn, bne_iff_ne, beq_iff_eq, beq_eq_false_iff_ne, ne_eq, Decidable.not_not] at h5)
            refine AWp_skip ?_
            refine AWp_seq ?_
            refine AWp_seq ?_
            -- region 11 ref.go:328
            refine AWp_regL ?_
            refine st rfl rfl rfl (op_moveO rfl rfl) ?_
            refine st rfl rfl rfl (op_lss rfl rfl rfl) ?_
            refine AOps_nil ?_
            refine AWp_cond rfl (fun h6 => ?_) (fun h6 => ?_)
            · (try rw [h6]); (try simp only [decide_eq_true_eq, decide_eq_false_iff_not, Bool.not_eq_true', Bool.not_eq_false', Int.not_lt, Int.not_le, Bool.not_true, Bool.not_false, Int.toNat_natCast, tn1, tn2, tnn, bne_iff_ne, beq_iff_eq, beq_eq_false_iff_ne, ne_eq, Decidable.not_not] at h6)
              refine AWp_seq ?_
              -- region 12 ref.go:329
              refine AWp_regL ?_
              refine st rfl rfl rfl (op_moveO rfl rfl) ?_
              refine st rfl rfl rfl (op_assignO rfl rfl) ?_
              refine st rfl rfl rfl (op_assignO rfl rfl) ?_
              refine st rfl rfl rfl (op_assignO rfl rfl) ?_
              refine st rfl rfl rfl (op_assignO rfl rfl) ?_
              refine AOps_nil ?_
              refine AWp_ret ?_
              (try simp only [blockQ, thenQ])
              first | (exfalso; omega; done) | (rw [← hq1, unqF_q (by omega) (by omega)]; exact ResQ_40 rfl rfl rfl rfl hcl (by simp [AV.lt, AV.ltL]) (Ret_of (by dsimp only; rw [Int.toNat_of_nonneg (show 0 ≤ a by omega)]))) | (rw [← hq1, unqF_ctl (by omega) (by omega)]; exact ResQ_40 rfl rfl rfl rfl hcl (by simp [AV.lt, AV.ltL]) (Ret_of rfl)) | (rw [← hq1, unqF_bad (by omega) (by omega) (by omega) (by omega) (by omega)]; exact ResQ_40 rfl rfl rfl rfl hcl (by simp [AV.lt, AV.ltL]) (Ret_of rfl)) | (rw [← hq1, unqF_last (by omega) (by omega)]; exact ResQ_40 rfl rfl rfl rfl hcl (by simp [AV.lt, AV.ltL]) (Ret_of rfl)) | (rw [← hq1, unqF_hb (by omega) (by omega) (by omega) (by omega)]; exact ResQ_40 rfl rfl rfl rfl hcl (by simp [AV.lt, AV.ltL]) (Ret_of rfl)) | (rw [← hq1, unqF_sur (by omega) (by omega) (by omega) (by omega) (by omega) (by omega)]; exact ResQ_40 rfl rfl rfl rfl hcl (by simp [AV.lt, AV.ltL]) (Ret_of rfl)) | (rw [← hq1, unqF_eb (by omega) (by omega) (by omega) (by assumption)]; exact ResQ_40 rfl rfl rfl rfl hcl (by simp [AV.lt, AV.ltL]) (Ret_of rfl)) | (rw [← hq1, unqF_end (by omega)]; exact ResQ_40 rfl rfl rfl rfl hcl (by simp [AV.lt, AV.ltL]) (Ret_of rfl))
            · (try rw [h6]); (try simp only [decide_eq_true_eq, decide_eq_false_iff_not, Bool.not_eq_true', Bool.not_eq_false', Int.not_lt, Int.not_le, Bool.not_true, Bool.not_false, Int.toNat_natCast, tn1, tn2, tnn, bne_iff_ne, beq_iff_eq, beq_eq_false_iff_ne, ne_eq, Decidable.not_not] at h6)
              refine AWp_skip ?_
              refine AWp_seq ?_
              refine AWp_seq ?_
              -- region 13 ref.go:331
              refine AWp_regL ?_
              refine st rfl rfl rfl (op_moveO rfl rfl) ?_
              refine st rfl rfl rfl (op_neq rfl rfl rfl) ?_
              refine AOps_nil ?_
              refine AWp_cond rfl (fun h7 => ?_) (fun h7 => ?_)
              · (try rw [h7]); (try simp only [decide_eq_true_eq, decide_eq_false_iff_not, Bool.not_eq_true', Bool.not_eq_false', Int.not_lt, Int.not_le, Bool.not_true, Bool.not_false, Int.toNat_natCast, tn1, tn2, tnn, bne_iff_ne, beq_iff_eq, beq_eq_false_iff_ne, ne_eq, Decidable.not_not] at h7)
                refine AWp_seq ?_
                -- region 14 ref.go:332
                refine AWp_regL ?_
                have hu := u8_le (s := s) (a := i) (by omega)
                refine st rfl rfl rfl (op_moveO rfl rfl) ?_
                refine st rfl rfl rfl (op_moveO rfl rfl) ?_
                refine st rfl rfl rfl (op_callF rfl rfl rfl Tryd.func43 rfl rfl (utf8_c s (i : Int) _ (by omega) (by omega) (by omega))) ?_
                simp only [Int.toNat_natCast]
                refine st rfl rfl rfl (op_assignO rfl rfl) ?_
                refine AOps_nil ?_
                refine AWp_seq ?_
                refine AWp_seq ?_
                -- region 15 ref.go:333
                refine AWp_regL ?_
                refine st rfl rfl rfl (op_moveO rfl rfl) ?_
                refine st rfl rfl rfl (op_eql rfl rfl rfl) ?_
                refine AOps_nil ?_
                refine AWp_cond rfl (fun h8 => ?_) (fun h8 => ?_)
                · (try rw [h8]); (try simp only [decide_eq_true_eq, decide_eq_false_iff_not, Bool.not_eq_true', Bool.not_eq_false', Int.not_lt, Int.not_le, Bool.not_true, Bool.not_false, Int.toNat_natCast, tn1, tn2, tnn, bne_iff_ne, beq_iff_eq, beq_eq_false_iff_ne, ne_eq, Decidable.not_not] at h8)
                  refine AWp_seq ?_
                  -- region 16 ref.go:334
                  refine AWp_regL ?_
                  refine st rfl rfl rfl (op_moveO rfl rfl) ?_
                  refine st rfl rfl rfl (op_assignO rfl rfl) ?_
                  refine st rfl rfl rfl (op_assignO rfl rfl) ?_
                  refine st rfl rfl rfl (op_assignO rfl rfl) ?_
                  refine st rfl rfl rfl (op_assignO rfl rfl) ?_
                  refine AOps_nil ?_
                  refine AWp_ret ?_
                  (try simp only [blockQ, thenQ])
                  first | (exfalso; omega; done) | (rw [← hq1, unqF_q (by omega) (by omega)]; exact ResQ_40 rfl rfl rfl rfl hcl (by simp [AV.lt, AV.ltL]) (Ret_of (by dsimp only; rw [Int.toNat_of_nonneg (show 0 ≤ a by omega)]))) | (rw [← hq1, unqF_ctl (by omega) (by omega)]; exact ResQ_40 rfl rfl rfl rfl hcl (by simp [AV.lt, AV.ltL]) (Ret_of rfl)) | (rw [← hq1, unqF_bad (by omega) (by omega) (by omega) (by omega) (by omega)]; exact ResQ_40 rfl rfl rfl rfl hcl (by simp [AV.lt, AV.ltL]) (Ret_of rfl)) | (rw [← hq1, unqF_last (by omega) (by omega)]; exact ResQ_40 rfl rfl rfl rfl hcl (by simp [AV.lt, AV.ltL]) (Ret_of rfl)) | (rw [← hq1, unqF_hb (by omega) (by omega) (by omega) (by omega)]; exact ResQ_40 rfl rfl rfl rfl hcl (by simp [AV.lt, AV.ltL]) (Ret_of rfl)) | (rw [← hq1, unqF_sur (by omega) (by omega) (by omega) (by omega) (by omega) (by omega)]; exact ResQ_40 rfl rfl rfl rfl hcl (by simp [AV.lt, AV.ltL]) (Ret_of rfl)) | (rw [← hq1, unqF_eb (by omega) (by omega) (by omega) (by assumption)]; exact ResQ_40 rfl rfl rfl rfl hcl (by simp [AV.lt, AV.ltL]) (Ret_of rfl)) | (rw [← hq1, unqF_end (by omega)]; exact ResQ_40 rfl rfl rfl rfl hcl (by simp [AV.lt, AV.ltL]) (Ret_of rfl))
                · (try rw [h8]); (try simp only [decide_eq_true_eq, decide_eq_false_iff_not, Bool.not_eq_true', Bool.not_eq_false', Int.not_lt, Int.not_le, Bool.not_true, Bool.not_false, Int.toNat_natCast, tn1, tn2, tnn, bne_iff_ne, beq_iff_eq, beq_eq_false_iff_ne, ne_eq, Decidable.not_not] at h8)
                  refine AWp_skip ?_
                  refine AWp_seq ?_
                  -- region 17 ref.go:336
                  refine AWp_regL ?_
                  refine st rfl rfl rfl (op_moveO rfl rfl) ?_
                  refine st rfl rfl rfl (op_moveO rfl rfl) ?_
                  refine st rfl rfl rfl (op_moveO rfl rfl) ?_
                  refine st rfl rfl rfl (op_moveO rfl rfl) ?_
                  refine st rfl rfl rfl (op_moveO rfl rfl) ?_
                  refine st rfl rfl rfl (op_add64 rfl rfl rfl (by omega) (by omega)) ?_
                  refine st rfl rfl rfl (op_slice_str _ _ rfl Tryd.underlying9 rfl (by first | exact ⟨_, rfl⟩ | rfl) (by first | exact ⟨_, rfl⟩ | rfl) (by omega) (by omega) (by omega)) ?_
                  simp only [Int.toNat_natCast, tnn]
                  have hxs : (s.extract i (i + u8 s i)).size ≤ s.size := by rw [ByteArray.size_extract]; omega
                  refine st rfl rfl rfl (op_cat rfl rfl rfl (by omega)) ?_
                  refine st rfl rfl rfl (op_assignO rfl rfl) ?_
                  refine AOps_nil ?_
                  refine AWp_seq ?_
                  -- region 18 ref.go:337
                  refine AWp_regL ?_
                  refine st rfl rfl rfl (op_moveO rfl rfl) ?_
                  refine st rfl rfl rfl (op_moveO rfl rfl) ?_
                  refine st rfl rfl rfl (op_add64 rfl rfl rfl (by omega) (by omega)) ?_
                  refine st rfl rfl rfl (op_assignO rfl rfl) ?_
                  refine AOps_nil ?_
                  refine AWp_exit ?_
                  first | exact ⟨(i + u8 s i, out ++ s.extract i (i + u8 s i)), σ.length, ⟨by rw [← hq1]; exact (unqF_plain (by omega) (by omega) (by omega) (by omega) (by omega)).symm, by simp only; omega, by simp only; omega, by simp only [ByteArray.size_append, ByteArray.size_extract]; omega⟩, by simp only; omega, Nat.le_refl _, ⟨rfl, rfl, rfl, rfl, rfl, trivial⟩, hcl, by simp [ltE, AV.lt], List.take_length⟩ | exact ⟨(i + 12, out ++ rchar (65536 + 1024 * ((rhex s (i + 2)).1 - 55296) + rlow s (i + 6) - 56320)), σ.length, ⟨by rw [← hq1]; exact (unqF_pair (by omega) (by omega) (by omega) (by omega) (by omega)).symm, by simp only; omega, by simp only; omega, by simp only [ByteArray.size_append, ByteArray.size_extract]; omega⟩, by simp only; omega, Nat.le_refl _, ⟨rfl, rfl, rfl, rfl, rfl, trivial⟩, hcl, by simp [ltE, AV.lt], List.take_length⟩ | exact ⟨(i + 6, out ++ rchar (rhex s (i + 2)).1), σ.length, ⟨by rw [← hq1]; exact (unqF_u (by omega) (by omega) (by omega) (by omega) (by omega) (by omega)).symm, by simp only; omega, by simp only; omega, by simp only [ByteArray.size_append, ByteArray.size_extract]; omega⟩, by simp only; omega, Nat.le_refl _, ⟨rfl, rfl, rfl, rfl, rfl, trivial⟩, hcl, by simp [ltE, AV.lt], List.take_length⟩ | exact ⟨(i + 2, out ++ ⟨#[UInt8.ofNat b]⟩), σ.length, ⟨by rw [← hq1]; exact (unqF_e (by omega) (by omega) (by omega) hb).symm, by simp only; omega, by simp only; omega, by simp only [ByteArray.size_append, ByteArray.size_extract]; omega⟩, by simp only; omega, Nat.le_refl _, ⟨rfl, rfl, rfl, by rw [escK_all, hb]; rfl, rfl, trivial⟩, hcl, by simp [ltE, AV.lt], List.take_length⟩
              · (try rw [h7]); (try simp only [decide_eq_true_eq, decide_eq_false_iff_not, Bool.not_eq_true', Bool.not_eq_false', Int.not_lt, Int.not_le, Bool.not_true, Bool.not_false, Int.toNat_natCast, tn1, tn2, tnn, bne_iff_ne, beq_iff_eq, beq_eq_false_iff_ne, ne_eq, Decidable.not_not] at h7)
                refine AWp_skip ?_
                refine AWp_seq ?_
                refine AWp_seq ?_
                -- region 19 ref.go:340
                refine AWp_regL ?_
                refine st rfl rfl rfl (op_moveO rfl rfl) ?_
                refine st rfl rfl rfl (op_add64 rfl rfl rfl (by omega) (by omega)) ?_
                refine st rfl rfl rfl (op_moveO rfl rfl) ?_
                refine st rfl rfl rfl (op_lenStr rfl rfl Tryd.underlying9 rfl) ?_
                refine st rfl rfl rfl (op_eql rfl rfl rfl) ?_
                refine AOps_nil ?_
                refine AWp_cond rfl (fun h9 => ?_) (fun h9 => ?_)
                · (try rw [h9]); (try simp only [decide_eq_true_eq, decide_eq_false_iff_not, Bool.not_eq_true', Bool.not_eq_false', Int.not_lt, Int.not_le, Bool.not_true, Bool.not_false, Int.toNat_natCast, tn1, tn2, tnn, bne_iff_ne, beq_iff_eq, beq_eq_false_iff_ne, ne_eq, Decidable.not_not] at h9)
                  refine AWp_seq ?_
                  -- region 20 ref.go:341
                  refine AWp_regL ?_
                  refine st rfl rfl rfl (op_moveO rfl rfl) ?_
                  refine st rfl rfl rfl (op_lenStr rfl rfl Tryd.underlying9 rfl) ?_
                  refine st rfl rfl rfl (op_assignO rfl rfl) ?_
                  refine st rfl rfl rfl (op_assignO rfl rfl) ?_
                  refine st rfl rfl rfl (op_assignO rfl rfl) ?_
                  refine st rfl rfl rfl (op_assignO rfl rfl) ?_
                  refine AOps_nil ?_
                  refine AWp_ret ?_
                  (try simp only [blockQ, thenQ])
                  first | (exfalso; omega; done) | (rw [← hq1, unqF_q (by omega) (by omega)]; exact ResQ_40 rfl rfl rfl rfl hcl (by simp [AV.lt, AV.ltL]) (Ret_of (by dsimp only; rw [Int.toNat_of_nonneg (show 0 ≤ a by omega)]))) | (rw [← hq1, unqF_ctl (by omega) (by omega)]; exact ResQ_40 rfl rfl rfl rfl hcl (by simp [AV.lt, AV.ltL]) (Ret_of rfl)) | (rw [← hq1, unqF_bad (by omega) (by omega) (by omega) (by omega) (by omega)]; exact ResQ_40 rfl rfl rfl rfl hcl (by simp [AV.lt, AV.ltL]) (Ret_of rfl)) | (rw [← hq1, unqF_last (by omega) (by omega)]; exact ResQ_40 rfl rfl rfl rfl hcl (by simp [AV.lt, AV.ltL]) (Ret_of rfl)) | (rw [← hq1, unqF_hb (by omega) (by omega) (by omega) (by omega)]; exact ResQ_40 rfl rfl rfl rfl hcl (by simp [AV.lt, AV.ltL]) (Ret_of rfl)) | (rw [← hq1, unqF_sur (by omega) (by omega) (by omega) (by omega) (by omega) (by omega)]; exact ResQ_40 rfl rfl rfl rfl hcl (by simp [AV.lt, AV.ltL]) (Ret_of rfl)) | (rw [← hq1, unqF_eb (by omega) (by omega) (by omega) (by assumption)]; exact ResQ_40 rfl rfl rfl rfl hcl (by simp [AV.lt, AV.ltL]) (Ret_of rfl)) | (rw [← hq1, unqF_end (by omega)]; exact ResQ_40 rfl rfl rfl rfl hcl (by simp [AV.lt, AV.ltL]) (Ret_of rfl))
                · (try rw [h9]); (try simp only [decide_eq_true_eq, decide_eq_false_iff_not, Bool.not_eq_true', Bool.not_eq_false', Int.not_lt, Int.not_le, Bool.not_true, Bool.not_false, Int.toNat_natCast, tn1, tn2, tnn, bne_iff_ne, beq_iff_eq, beq_eq_false_iff_ne, ne_eq, Decidable.not_not] at h9)
                  refine AWp_skip ?_
                  refine AWp_seq ?_
                  refine AWp_seq ?_
                  -- region 21 ref.go:343
                  refine AWp_regL ?_
                  refine st rfl rfl rfl (op_moveO rfl rfl) ?_
                  refine st rfl rfl rfl (op_moveO rfl rfl) ?_
                  refine st rfl rfl rfl (op_add64 rfl rfl rfl (by omega) (by omega)) ?_
                  refine st rfl rfl rfl (op_index_strB rfl Tryd.underlying9 rfl rfl (by omega) (by omega)) ?_
                  simp only [tn1]
                  refine st rfl rfl rfl (op_eql rfl rfl rfl) ?_
                  refine AOps_nil ?_
                  refine AWp_cond rfl (fun h10 => ?_) (fun h10 => ?_)
                  · (try rw [h10]); (try simp only [decide_eq_true_eq, decide_eq_false_iff_not, Bool.not_eq_true', Bool.not_eq_false', Int.not_lt, Int.not_le, Bool.not_true, Bool.not_false, Int.toNat_natCast, tn1, tn2, tnn, bne_iff_ne, beq_iff_eq, beq_eq_false_iff_ne, ne_eq, Decidable.not_not] at h10)
                    refine AWp_seq ?_
                    -- region 22 ref.go:344
                    refine AWp_regL ?_
                    have hx := rhex_ok s (i + 2)
                    have hlw := rlow_ok s (i + 6)
                    have hc1 := rchar_size (65536 + 1024 * ((rhex s (i + 2)).1 - 55296) + rlow s (i + 6) - 56320)
                    have hc2 := rchar_size (rhex s (i + 2)).1
                    refine st rfl rfl rfl (op_moveO rfl rfl) ?_
                    refine st rfl rfl rfl (op_moveO rfl rfl) ?_
                    refine st rfl rfl rfl (op_add64 rfl rfl rfl (by omega) (by omega)) ?_
                    refine st rfl rfl rfl (op_callF rfl rfl rfl Tryd.func44 rfl rfl (hex_c s (i + 2) _ hs (by omega))) ?_
                    refine st rfl rfl rfl (op_moveO rfl rfl) ?_
                    refine st rfl rfl rfl (op_extract rfl rfl rfl) ?_
                    refine st rfl rfl rfl (op_extract rfl rfl rfl) ?_
                    refine st rfl rfl rfl (op_assignO rfl rfl) ?_
                    refine st rfl rfl rfl (op_assignO rfl rfl) ?_
                    refine AOps_nil ?_
                    refine AWp_seq ?_
                    refine AWp_seq ?_
                    -- region 23 ref.go:345
                    refine AWp_regL ?_
                    refine st rfl rfl rfl (op_moveO rfl rfl) ?_
                    refine st rfl rfl rfl (op_geq rfl rfl rfl) ?_
                    refine AOps_nil ?_
                    refine AWp_cond rfl (fun h11 => ?_) (fun h11 => ?_)
                    · (try rw [h11]); (try simp only [decide_eq_true_eq, decide_eq_false_iff_not, Bool.not_eq_true', Bool.not_eq_false', Int.not_lt, Int.not_le, Bool.not_true, Bool.not_false, Int.toNat_natCast, tn1, tn2, tnn, bne_iff_ne, beq_iff_eq, beq_eq_false_iff_ne, ne_eq, Decidable.not_not] at h11)
                      refine AWp_seq ?_
                      -- region 24 ref.go:346
                      refine AWp_regL ?_
                      refine st rfl rfl rfl (op_moveO rfl rfl) ?_
                      refine st rfl rfl rfl (op_assignO rfl rfl) ?_
                      refine st rfl rfl rfl (op_assignO rfl rfl) ?_
                      refine st rfl rfl rfl (op_assignO rfl rfl) ?_
                      refine st rfl rfl rfl (op_assignO rfl rfl) ?_
                      refine AOps_nil ?_
                      refine AWp_ret ?_
                      (try simp only [blockQ, thenQ])
                      first | (exfalso; omega; done) | (rw [← hq1, unqF_q (by omega) (by omega)]; exact ResQ_40 rfl rfl rfl rfl hcl (by simp [AV.lt, AV.ltL]) (Ret_of (by dsimp only; rw [Int.toNat_of_nonneg (show 0 ≤ a by omega)]))) | (rw [← hq1, unqF_ctl (by omega) (by omega)]; exact ResQ_40 rfl rfl rfl rfl hcl (by simp [AV.lt, AV.ltL]) (Ret_of rfl)) | (rw [← hq1, unqF_bad (by omega) (by omega) (by omega) (by omega) (by omega)]; exact ResQ_40 rfl rfl rfl rfl hcl (by simp [AV.lt, AV.ltL]) (Ret_of rfl)) | (rw [← hq1, unqF_last (by omega) (by omega)]; exact ResQ_40 rfl rfl rfl rfl hcl (by simp [AV.lt, AV.ltL]) (Ret_of rfl)) | (rw [← hq1, unqF_hb (by omega) (by omega) (by omega) (by omega)]; exact ResQ_40 rfl rfl rfl rfl hcl (by simp [AV.lt, AV.ltL]) (Ret_of rfl)) | (rw [← hq1, unqF_sur (by omega) (by omega) (by omega) (by omega) (by omega) (by omega)]; exact ResQ_40 rfl rfl rfl rfl hcl (by simp [AV.lt, AV.ltL]) (Ret_of rfl)) | (rw [← hq1, unqF_eb (by omega) (by omega) (by omega) (by assumption)]; exact ResQ_40 rfl rfl rfl rfl hcl (by simp [AV.lt, AV.ltL]) (Ret_of rfl)) | (rw [← hq1, unqF_end (by omega)]; exact ResQ_40 rfl rfl rfl rfl hcl (by simp [AV.lt, AV.ltL]) (Ret_of rfl))
                    · (try rw [h11]); (try simp only [decide_eq_true_eq, decide_eq_false_iff_not, Bool.not_eq_true', Bool.not_eq_false', Int.not_lt, Int.not_le, Bool.not_true, Bool.not_false, Int.toNat_natCast, tn1, tn2, tnn, bne_iff_ne, beq_iff_eq, beq_eq_false_iff_ne, ne_eq, Decidable.not_not] at h11)
                      refine AWp_skip ?_
                      refine AWp_seq ?_
                      -- region 25 ref.go:348
                      refine AWp_regL ?_
                      refine st rfl rfl rfl (op_moveO rfl rfl) ?_
                      refine st rfl rfl rfl (op_moveO rfl rfl) ?_
                      refine st rfl rfl rfl (op_add64 rfl rfl rfl (by omega) (by omega)) ?_
                      refine st rfl rfl rfl (op_callF rfl rfl rfl Tryd.func45 rfl rfl (low_c s (i + 6) _ hs (by omega))) ?_
                      refine st rfl rfl rfl (op_assignO rfl rfl) ?_
                      refine AOps_nil ?_
                      refine AWp_seq ?_
                      refine AWp_seq ?_
                      -- region 26 ref.go:349
                      refine AWp_regL ?_
                      refine st rfl rfl rfl (op_moveO rfl rfl) ?_
                      refine st rfl rfl rfl (op_geq rfl rfl rfl) ?_
                      refine st rfl rfl rfl (op_moveO rfl rfl) ?_
                      refine AOps_split 99 rfl (fun h12 => ?_) (fun h12 => ?_)
                      · rw [h12]; (try simp only [decide_eq_true_eq, decide_eq_false_iff_not, Bool.not_eq_true', Bool.not_eq_false', Int.not_lt, Int.not_le, Bool.not_true, Bool.not_false, Int.toNat_natCast, tn1, tn2, tnn, bne_iff_ne, beq_iff_eq, beq_eq_false_iff_ne, ne_eq, Decidable.not_not] at h12)
                        refine stG rfl rfl rfl rfl rfl rfl (op_moveO rfl rfl) ?_
                        refine stG rfl rfl rfl rfl rfl rfl (op_lss rfl rfl rfl) ?_
                        refine st rfl rfl rfl (op_pickTO rfl rfl rfl) ?_
                        refine st rfl rfl rfl (op_moveO rfl rfl) ?_
                        refine AOps_split 103 rfl (fun h13 => ?_) (fun h13 => ?_)
                        · rw [h13]; (try simp only [decide_eq_true_eq, decide_eq_false_iff_not, Bool.not_eq_true', Bool.not_eq_false', Int.not_lt, Int.not_le, Bool.not_true, Bool.not_false, Int.toNat_natCast, tn1, tn2, tnn, bne_iff_ne, beq_iff_eq, beq_eq_false_iff_ne, ne_eq, Decidable.not_not] at h13)
                          refine stG rfl rfl rfl rfl rfl rfl (op_moveO rfl rfl) ?_
                          refine stG rfl rfl rfl rfl rfl rfl (op_geq rfl rfl rfl) ?_
                          refine st rfl rfl rfl (op_pickTO rfl rfl rfl) ?_
                          refine AOps_nil ?_
                          refine AWp_cond rfl (fun h14 => ?_) (fun h14 => ?_)
                          · (try rw [h14]); (try simp only [decide_eq_true_eq, decide_eq_false_iff_not, Bool.not_eq_true', Bool.not_eq_false', Int.not_lt, Int.not_le, Bool.not_true, Bool.not_false, Int.toNat_natCast, tn1, tn2, tnn, bne_iff_ne, beq_iff_eq, beq_eq_false_iff_ne, ne_eq, Decidable.not_not] at h14)
                            refine AWp_seq ?_
                            -- region 27 ref.go:350
                            refine AWp_regL ?_
                            refine st rfl rfl rfl (op_moveO rfl rfl) ?_
                            refine st rfl rfl rfl (op_moveO rfl rfl) ?_
                            refine st rfl rfl rfl (op_sub64 rfl rfl rfl (by omega) (by omega)) ?_
                            refine st rfl rfl rfl (op_mul64 rfl rfl rfl (by omega) (by omega)) ?_
                            refine st rfl rfl rfl (op_add64 rfl rfl rfl (by omega) (by omega)) ?_
                            refine st rfl rfl rfl (op_moveO rfl rfl) ?_
                            refine st rfl rfl rfl (op_add64 rfl rfl rfl (by omega) (by omega)) ?_
                            refine st rfl rfl rfl (op_sub64 rfl rfl rfl (by omega) (by omega)) ?_
                            refine st rfl rfl rfl (op_callF rfl rfl rfl Tryd.func46 rfl rfl (char_c _ _ (by omega) (by omega))) ?_
                            refine st rfl rfl rfl (op_cat rfl rfl rfl (by omega)) ?_
                            refine st rfl rfl rfl (op_assignO rfl rfl) ?_
                            refine AOps_nil ?_
                            refine AWp_seq ?_
                            -- region 28 ref.go:351
                            refine AWp_regL ?_
                            refine st rfl rfl rfl (op_moveO rfl rfl) ?_
                            refine st rfl rfl rfl (op_add64 rfl rfl rfl (by omega) (by omega)) ?_
                            refine st rfl rfl rfl (op_assignO rfl rfl) ?_
                            refine AOps_nil ?_
                            refine AWp_exit ?_
                            first | exact ⟨(i + u8 s i, out ++ s.extract i (i + u8 s i)), σ.length, ⟨by rw [← hq1]; exact (unqF_plain (by omega) (by omega) (by omega) (by omega) (by omega)).symm, by simp only; omega, by simp only; omega, by simp only [ByteArray.size_append, ByteArray.size_extract]; omega⟩, by simp only; omega, Nat.le_refl _, ⟨rfl, rfl, rfl, rfl, rfl, trivial⟩, hcl, by simp [ltE, AV.lt], List.take_length⟩ | exact ⟨(i + 12, out ++ rchar (65536 + 1024 * ((rhex s (i + 2)).1 - 55296) + rlow s (i + 6) - 56320)), σ.length, ⟨by rw [← hq1]; exact (unqF_pair (by omega) (by omega) (by omega) (by omega) (by omega)).symm, by simp only; omega, by simp only; omega, by simp only [ByteArray.size_append, ByteArray.size_extract]; omega⟩, by simp only; omega, Nat.le_refl _, ⟨rfl, rfl, rfl, rfl, rfl, trivial⟩, hcl, by simp [ltE, AV.lt], List.take_length⟩ | exact ⟨(i + 6, out ++ rchar (rhex s (i + 2)).1), σ.length, ⟨by rw [← hq1]; exact (unqF_u (by omega) (by omega) (by omega) (by omega) (by omega) (by omega)).symm, by simp only; omega, by simp only; omega, by simp only [ByteArray.size_append, ByteArray.size_extract]; omega⟩, by simp only; omega, Nat.le_refl _, ⟨rfl, rfl, rfl, rfl, rfl, trivial⟩, hcl, by simp [ltE, AV.lt], List.take_length⟩ | exact ⟨(i + 2, out ++ ⟨#[UInt8.ofNat b]⟩), σ.length, ⟨by rw [← hq1]; exact (unqF_e (by omega) (by omega) (by omega) hb).symm, by simp only; omega, by simp only; omega, by simp only [ByteArray.size_append, ByteArray.size_extract]; omega⟩, by simp only; omega, Nat.le_refl _, ⟨rfl, rfl, rfl, by rw [escK_all, hb]; rfl, rfl, trivial⟩, hcl, by simp [ltE, AV.lt], List.take_length⟩
                          · (try rw [h14]); (try simp only [decide_eq_true_eq, decide_eq_false_iff_not, Bool.not_eq_true', Bool.not_eq_false', Int.not_lt, Int.not_le, Bool.not_true, Bool.not_false, Int.toNat_natCast, tn1, tn2, tnn, bne_iff_ne, beq_iff_eq, beq_eq_false_iff_ne, ne_eq, Decidable.not_not] at h14)
                            refine AWp_skip ?_
                            refine AWp_seq ?_
                            refine AWp_seq ?_
                            -- region 29 ref.go:354
                            refine AWp_regL ?_
                            refine st rfl rfl rfl (op_moveO rfl rfl) ?_
                            refine st rfl rfl rfl (op_geq rfl rfl rfl) ?_
                            refine st rfl rfl rfl (op_moveO rfl rfl) ?_
                            refine AOps_split 121 rfl (fun h15 => ?_) (fun h15 => ?_)
                            · rw [h15]; (try simp only [decide_eq_true_eq, decide_eq_false_iff_not, Bool.not_eq_true', Bool.not_eq_false', Int.not_lt, Int.not_le, Bool.not_true, Bool.not_false, Int.toNat_natCast, tn1, tn2, tnn, bne_iff_ne, beq_iff_eq, beq_eq_false_iff_ne, ne_eq, Decidable.not_not] at h15)
                              refine stG rfl rfl rfl rfl rfl rfl (op_moveO rfl rfl) ?_
                              refine stG rfl rfl rfl rfl rfl rfl (op_lss rfl rfl rfl) ?_
                              refine st rfl rfl rfl (op_pickTO rfl rfl rfl) ?_
                              refine AOps_nil ?_
                              refine AWp_cond rfl (fun h16 => ?_) (fun h16 => ?_)
                              · (try rw [h16]); (try simp only [decide_eq_true_eq, decide_eq_false_iff_not, Bool.not_eq_true', Bool.not_eq_false', Int.not_lt, Int.not_le, Bool.not_true, Bool.not_false, Int.toNat_natCast, tn1, tn2, tnn, bne_iff_ne, beq_iff_eq, beq_eq_false_iff_ne, ne_eq, Decidable.not_not] at h16)
                                refine AWp_seq ?_
                                -- region 30 ref.go:355
                                refine AWp_regL ?_
                                refine st rfl rfl rfl (op_moveO rfl rfl) ?_
                                refine st rfl rfl rfl (op_assignO rfl rfl) ?_
                                refine st rfl rfl rfl (op_assignO rfl rfl) ?_
                                refine st rfl rfl rfl (op_assignO rfl rfl) ?_
                                refine st rfl rfl rfl (op_assignO rfl rfl) ?_
                                refine AOps_nil ?_
                                refine AWp_ret ?_
                                (try simp only [blockQ, thenQ])
                                first | (exfalso; omega; done) | (rw [← hq1, unqF_q (by omega) (by omega)]; exact ResQ_40 rfl rfl rfl rfl hcl (by simp [AV.lt, AV.ltL]) (Ret_of (by dsimp only; rw [Int.toNat_of_nonneg (show 0 ≤ a by omega)]))) | (rw [← hq1, unqF_ctl (by omega) (by omega)]; exact ResQ_40 rfl rfl rfl rfl hcl (by simp [AV.lt, AV.ltL]) (Ret_of rfl)) | (rw [← hq1, unqF_bad (by omega) (by omega) (by omega) (by omega) (by omega)]; exact ResQ_40 rfl rfl rfl rfl hcl (by simp [AV.lt, AV.ltL]) (Ret_of rfl)) | (rw [← hq1, unqF_last (by omega) (by omega)]; exact ResQ_40 rfl rfl rfl rfl hcl (by simp [AV.lt, AV.ltL]) (Ret_of rfl)) | (rw [← hq1, unqF_hb (by omega) (by omega) (by omega) (by omega)]; exact ResQ_40 rfl rfl rfl rfl hcl (by simp [AV.lt, AV.ltL]) (Ret_of rfl)) | (rw [← hq1, unqF_sur (by omega) (by omega) (by omega) (by omega) (by omega) (by omega)]; exact ResQ_40 rfl rfl rfl rfl hcl (by simp [AV.lt, AV.ltL]) (Ret_of rfl)) | (rw [← hq1, unqF_eb (by omega) (by omega) (by omega) (by assumption)]; exact ResQ_40 rfl rfl rfl rfl hcl (by simp [AV.lt, AV.ltL]) (Ret_of rfl)) | (rw [← hq1, unqF_end (by omega)]; exact ResQ_40 rfl rfl rfl rfl hcl (by simp [AV.lt, AV.ltL]) (Ret_of rfl))
                              · (try rw [h16]); (try simp only [decide_eq_true_eq, decide_eq_false_iff_not, Bool.not_eq_true', Bool.not_eq_false', Int.not_lt, Int.not_le, Bool.not_true, Bool.not_false, Int.toNat_natCast, tn1, tn2, tnn, bne_iff_ne, beq_iff_eq, beq_eq_false_iff_ne, ne_eq, Decidable.not_not] at h16)
                                refine AWp_skip ?_
                                refine AWp_seq ?_
                                -- region 31 ref.go:357
                                refine AWp_regL ?_
                                refine st rfl rfl rfl (op_moveO rfl rfl) ?_
                                refine st rfl rfl rfl (op_moveO rfl rfl) ?_
                                refine st rfl rfl rfl (op_callF rfl rfl rfl Tryd.func46 rfl rfl (char_c _ _ (by omega) (by omega))) ?_
                                refine st rfl rfl rfl (op_cat rfl rfl rfl (by omega)) ?_
                                refine st rfl rfl rfl (op_assignO rfl rfl) ?_
                                refine AOps_nil ?_
                                refine AWp_seq ?_
                                -- region 32 ref.go:358
                                refine AWp_regL ?_
                                refine st rfl rfl rfl (op_moveO rfl rfl) ?_
                                refine st rfl rfl rfl (op_add64 rfl rfl rfl (by omega) (by omega)) ?_
                                refine st rfl rfl rfl (op_assignO rfl rfl) ?_
                                refine AOps_nil ?_
                                refine AWp_exit ?_
                                first | exact ⟨(i + u8 s i, out ++ s.extract i (i + u8 s i)), σ.length, ⟨by rw [← hq1]; exact (unqF_plain (by omega) (by omega) (by omega) (by omega) (by omega)).symm, by simp only; omega, by simp only; omega, by simp only [ByteArray.size_append, ByteArray.size_extract]; omega⟩, by simp only; omega, Nat.le_refl _, ⟨rfl, rfl, rfl, rfl, rfl, trivial⟩, hcl, by simp [ltE, AV.lt], List.take_length⟩ | exact ⟨(i + 12, out ++ rchar (65536 + 1024 * ((rhex s (i + 2)).1 - 55296) + rlow s (i + 6) - 56320)), σ.length, ⟨by rw [← hq1]; exact (unqF_pair (by omega) (by omega) (by omega) (by omega) (by omega)).symm, by simp only; omega, by simp only; omega, by simp only [ByteArray.size_append, ByteArray.size_extract]; omega⟩, by simp only; omega, Nat.le_refl _, ⟨rfl, rfl, rfl, rfl, rfl, trivial⟩, hcl, by simp [ltE, AV.lt], List.take_length⟩ | exact ⟨(i + 6, out ++ rchar (rhex s (i + 2)).1), σ.length, ⟨by rw [← hq1]; exact (unqF_u (by omega) (by omega) (by omega) (by omega) (by omega) (by omega)).symm, by simp only; omega, by simp only; omega, by simp only [ByteArray.size_append, ByteArray.size_extract]; omega⟩, by simp only; omega, Nat.le_refl _, ⟨rfl, rfl, rfl, rfl, rfl, trivial⟩, hcl, by simp [ltE, AV.lt], List.take_length⟩ | exact ⟨(i + 2, out ++ ⟨#[UInt8.ofNat b]⟩), σ.length, ⟨by rw [← hq1]; exact (unqF_e (by omega) (by omega) (by omega) hb).symm, by simp only; omega, by simp only; omega, by simp only [ByteArray.size_append, ByteArray.size_extract]; omega⟩, by simp only; omega, Nat.le_refl _, ⟨rfl, rfl, rfl, by rw [escK_all, hb]; rfl, rfl, trivial⟩, hcl, by simp [ltE, AV.lt], List.take_length⟩
                            · rw [h15]; (try simp only [decide_eq_true_eq, decide_eq_false_iff_not, Bool.not_eq_true', Bool.not_eq_false', Int.not_lt, Int.not_le, Bool.not_true, Bool.not_false, Int.toNat_natCast, tn1, tn2, tnn, bne_iff_ne, beq_iff_eq, beq_eq_false_iff_ne, ne_eq, Decidable.not_not] at h15)
                              refine stS rfl rfl rfl (.inl rfl) rfl rfl ?_
                              refine stS rfl rfl rfl (.inl rfl) rfl rfl ?_
                              refine st rfl rfl rfl (op_pickFO rfl rfl rfl) ?_
                              refine AOps_nil ?_
                              refine AWp_condF rfl ?_
                              refine AWp_skip ?_
                              refine AWp_seq ?_
                              -- region 31 ref.go:357
                              refine AWp_regL ?_
                              refine st rfl rfl rfl (op_moveO rfl rfl) ?_
                              refine st rfl rfl rfl (op_moveO rfl rfl) ?_
                              refine st rfl rfl rfl (op_callF rfl rfl rfl Tryd.func46 rfl rfl (char_c _ _ (by omega) (by omega))) ?_
                              refine st rfl rfl rfl (op_cat rfl rfl rfl (by omega)) ?_
                              refine st rfl rfl rfl (op_assignO rfl rfl) ?_
                              refine AOps_nil ?_
                              refine AWp_seq ?_
                              -- region 32 ref.go:358
                              refine AWp_regL ?_
                              refine st rfl rfl rfl (op_moveO rfl rfl) ?_
                              refine st rfl rfl rfl (op_add64 rfl rfl rfl (by omega) (by omega)) ?_
                              refine st rfl rfl rfl (op_assignO rfl rfl) ?_
                              refine AOps_nil ?_
                              refine AWp_exit ?_
                              first | exact ⟨(i + u8 s i, out ++ s.extract i (i + u8 s i)), σ.length, ⟨by rw [← hq1]; exact (unqF_plain (by omega) (by omega) (by omega) (by omega) (by omega)).symm, by simp only; omega, by simp only; omega, by simp only [ByteArray.size_append, ByteArray.size_extract]; omega⟩, by simp only; omega, Nat.le_refl _, ⟨rfl, rfl, rfl, rfl, rfl, trivial⟩, hcl, by simp [ltE, AV.lt], List.take_length⟩ | exact ⟨(i + 12, out ++ rchar (65536 + 1024 * ((rhex s (i + 2)).1 - 55296) + rlow s (i + 6) - 56320)), σ.length, ⟨by rw [← hq1]; exact (unqF_pair (by omega) (by omega) (by omega) (by omega) (by omega)).symm, by simp only; omega, by simp only; omega, by simp only [ByteArray.size_append, ByteArray.size_extract]; omega⟩, by simp only; omega, Nat.le_refl _, ⟨rfl, rfl, rfl, rfl, rfl, trivial⟩, hcl, by simp [ltE, AV.lt], List.take_length⟩ | exact ⟨(i + 6, out ++ rchar (rhex s (i + 2)).1), σ.length, ⟨by rw [← hq1]; exact (unqF_u (by omega) (by omega) (by omega) (by omega) (by omega) (by omega)).symm, by simp only; omega, by simp only; omega, by simp only [ByteArray.size_append, ByteArray.size_extract]; omega⟩, by simp only; omega, Nat.le_refl _, ⟨rfl, rfl, rfl, rfl, rfl, trivial⟩, hcl, by simp [ltE, AV.lt], List.take_length⟩ | exact ⟨(i + 2, out ++ ⟨#[UInt8.ofNat b]⟩), σ.length, ⟨by rw [← hq1]; exact (unqF_e (by omega) (by omega) (by omega) hb).symm, by simp only; omega, by simp only; omega, by simp only [ByteArray.size_append, ByteArray.size_extract]; omega⟩, by simp only; omega, Nat.le_refl _, ⟨rfl, rfl, rfl, by rw [escK_all, hb]; rfl, rfl, trivial⟩, hcl, by simp [ltE, AV.lt], List.take_length⟩
                        · rw [h13]; (try simp only [decide_eq_true_eq, decide_eq_false_iff_not, Bool.not_eq_true', Bool.not_eq_false', Int.not_lt, Int.not_le, Bool.not_true, Bool.not_false, Int.toNat_natCast, tn1, tn2, tnn, bne_iff_ne, beq_iff_eq, beq_eq_false_iff_ne, ne_eq, Decidable.not_not] at h13)
                          refine stS rfl rfl rfl (.inl rfl) rfl rfl ?_
                          refine stS rfl rfl rfl (.inl rfl) rfl rfl ?_
                          refine st rfl rfl rfl (op_pickFO rfl rfl rfl) ?_
                          refine AOps_nil ?_
                          refine AWp_condF rfl ?_
                          refine AWp_skip ?_
                          refine AWp_seq ?_
                          refine AWp_seq ?_
                          -- region 29 ref.go:354
                          refine AWp_regL ?_
                          refine st rfl rfl rfl (op_moveO rfl rfl) ?_
                          refine st rfl rfl rfl (op_geq rfl rfl rfl) ?_
                          refine st rfl rfl rfl (op_moveO rfl rfl) ?_
                          refine AOps_split 121 rfl (fun h17 => ?_) (fun h17 => ?_)
                          · rw [h17]; (try simp only [decide_eq_true_eq, decide_eq_false_iff_not, Bool.not_eq_true', Bool.not_eq_false', Int.not_lt, Int.not_le, Bool.not_true, Bool.not_false, Int.toNat_natCast, tn1, tn2, tnn, bne_iff_ne, beq_iff_eq, beq_eq_false_iff_ne, ne_eq, Decidable.not_not] at h17)
                            refine stG rfl rfl rfl rfl rfl rfl (op_moveO rfl rfl) ?_
                            refine stG rfl rfl rfl rfl rfl rfl (op_lss rfl rfl rfl) ?_
                            refine st rfl rfl rfl (op_pickTO rfl rfl rfl) ?_
                            refine AOps_nil ?_
                            refine AWp_cond rfl (fun h18 => ?_) (fun h18 => ?_)
                            · (try rw [h18]); (try simp only [decide_eq_true_eq, decide_eq_false_iff_not, Bool.not_eq_true', Bool.not_eq_false', Int.not_lt, Int.not_le, Bool.not_true, Bool.not_false, Int.toNat_natCast, tn1, tn2, tnn, bne_iff_ne, beq_iff_eq, beq_eq_false_iff_ne, ne_eq, Decidable.not_not] at h18)
                              refine AWp_seq ?_
                              -- region 30 ref.go:355
                              refine AWp_regL ?_
                              refine st rfl rfl rfl (op_moveO rfl rfl) ?_
                              refine st rfl rfl rfl (op_assignO rfl rfl) ?_
                              refine st rfl rfl rfl (op_assignO rfl rfl) ?_
                              refine st rfl rfl rfl (op_assignO rfl rfl) ?_
                              refine st rfl rfl rfl (op_assignO rfl rfl) ?_
                              refine AOps_nil ?_
                              refine AWp_ret ?_
                              (try simp only [blockQ, thenQ])
                              first | (exfalso; omega; done) | (rw [← hq1, unqF_q (by omega) (by omega)]; exact ResQ_40 rfl rfl rfl rfl hcl (by simp [AV.lt, AV.ltL]) (Ret_of (by dsimp only; rw [Int.toNat_of_nonneg (show 0 ≤ a by omega)]))) | (rw [← hq1, unqF_ctl (by omega) (by omega)]; exact ResQ_40 rfl rfl rfl rfl hcl (by simp [AV.lt, AV.ltL]) (Ret_of rfl)) | (rw [← hq1, unqF_bad (by omega) (by omega) (by omega) (by omega) (by omega)]; exact ResQ_40 rfl rfl rfl rfl hcl (by simp [AV.lt, AV.ltL]) (Ret_of rfl)) | (rw [← hq1, unqF_last (by omega) (by omega)]; exact ResQ_40 rfl rfl rfl rfl hcl (by simp [AV.lt, AV.ltL]) (Ret_of rfl)) | (rw [← hq1, unqF_hb (by omega) (by omega) (by omega) (by omega)]; exact ResQ_40 rfl rfl rfl rfl hcl (by simp [AV.lt, AV.ltL]) (Ret_of rfl)) | (rw [← hq1, unqF_sur (by omega) (by omega) (by omega) (by omega) (by omega) (by omega)]; exact ResQ_40 rfl rfl rfl rfl hcl (by simp [AV.lt, AV.ltL]) (Ret_of rfl)) | (rw [← hq1, unqF_eb (by omega) (by omega) (by omega) (by assumption)]; exact ResQ_40 rfl rfl rfl rfl hcl (by simp [AV.lt, AV.ltL]) (Ret_of rfl)) | (rw [← hq1, unqF_end (by omega)]; exact ResQ_40 rfl rfl rfl rfl hcl (by simp [AV.lt, AV.ltL]) (Ret_of rfl))
                            · (try rw [h18]); (try simp only [decide_eq_true_eq, decide_eq_false_iff_not, Bool.not_eq_true', Bool.not_eq_false', Int.not_lt, Int.not_le, Bool.not_true, Bool.not_false, Int.toNat_natCast, tn1, tn2, tnn, bne_iff_ne, beq_iff_eq, beq_eq_false_iff_ne, ne_eq, Decidable.not_not] at h18)
                              refine AWp_skip ?_
                              refine AWp_seq ?_
                              -- region 31 ref.go:357
                              refine AWp_regL ?_
                              refine st rfl rfl rfl (op_moveO rfl rfl) ?_
                              refine st rfl rfl rfl (op_moveO rfl rfl) ?_
                              refine st rfl rfl rfl (op_callF rfl rfl rfl Tryd.func46 rfl rfl (char_c _ _ (by omega) (by omega))) ?_
                              refine st rfl rfl rfl (op_cat rfl rfl rfl (by omega)) ?_
                              refine st rfl rfl rfl (op_assignO rfl rfl) ?_
                              refine AOps_nil ?_
                              refine AWp_seq ?_
                              -- region 32 ref.go:358
                              refine AWp_regL ?_
                              refine st rfl rfl rfl (op_moveO rfl rfl) ?_
                              refine st rfl rfl rfl (op_add64 rfl rfl rfl (by omega) (by omega)) ?_
                              refine st rfl rfl rfl (op_assignO rfl rfl) ?_
                              refine AOps_nil ?_
                              refine AWp_exit ?_
                              first | exact ⟨(i + u8 s i, out ++ s.extract i (i + u8 s i)), σ.length, ⟨by rw [← hq1]; exact (unqF_plain (by omega) (by omega) (by omega) (by omega) (by omega)).symm, by simp only; omega, by simp only; omega, by simp only [ByteArray.size_append, ByteArray.size_extract]; omega⟩, by simp only; omega, Nat.le_refl _, ⟨rfl, rfl, rfl, rfl, rfl, trivial⟩, hcl, by simp [ltE, AV.lt], List.take_length⟩ | exact ⟨(i + 12, out ++ rchar (65536 + 1024 * ((rhex s (i + 2)).1 - 55296) + rlow s (i + 6) - 56320)), σ.length, ⟨by rw [← hq1]; exact (unqF_pair (by omega) (by omega) (by omega) (by omega) (by omega)).symm, by simp only; omega, by simp only; omega, by simp only [ByteArray.size_append, ByteArray.size_extract]; omega⟩, by simp only; omega, Nat.le_refl _, ⟨rfl, rfl, rfl, rfl, rfl, trivial⟩, hcl, by simp [ltE, AV.lt], List.take_length⟩ | exact ⟨(i + 6, out ++ rchar (rhex s (i + 2)).1), σ.length, ⟨by rw [← hq1]; exact (unqF_u (by omega) (by omega) (by omega) (by omega) (by omega) (by omega)).symm, by simp only; omega, by simp only; omega, by simp only [ByteArray.size_append, ByteArray.size_extract]; omega⟩, by simp only; omega, Nat.le_refl _, ⟨rfl, rfl, rfl, rfl, rfl, trivial⟩, hcl, by simp [ltE, AV.lt], List.take_length⟩ | exact ⟨(i + 2, out ++ ⟨#[UInt8.ofNat b]⟩), σ.length, ⟨by rw [← hq1]; exact (unqF_e (by omega) (by omega) (by omega) hb).symm, by simp only; omega, by simp only; omega, by simp only [ByteArray.size_append, ByteArray.size_extract]; omega⟩, by simp only; omega, Nat.le_refl _, ⟨rfl, rfl, rfl, by rw [escK_all, hb]; rfl, rfl, trivial⟩, hcl, by simp [ltE, AV.lt], List.take_length⟩
                          · rw [h17]; (try simp only [decide_eq_true_eq, decide_eq_false_iff_not, Bool.not_eq_true', Bool.not_eq_false', Int.not_lt, Int.not_le, Bool.not_true, Bool.not_false, Int.toNat_natCast, tn1, tn2, tnn, bne_iff_ne, beq_iff_eq, beq_eq_false_iff_ne, ne_eq, Decidable.not_not] at h17)
                            refine stS rfl rfl rfl (.inl rfl) rfl rfl ?_
                            refine stS rfl rfl rfl (.inl rfl) rfl rfl ?_
                            refine st rfl rfl rfl (op_pickFO rfl rfl rfl) ?_
                            refine AOps_nil ?_
                            refine AWp_condF rfl ?_
                            refine AWp_skip ?_
                            refine AWp_seq ?_
                            -- region 31 ref.go:357
                            refine AWp_regL ?_
                            refine st rfl rfl rfl (op_moveO rfl rfl) ?_
                            refine st rfl rfl rfl (op_moveO rfl rfl) ?_
                            refine st rfl rfl rfl (op_callF rfl rfl rfl Tryd.func46 rfl rfl (char_c _ _ (by omega) (by omega))) ?_
                            refine st rfl rfl rfl (op_cat rfl rfl rfl (by omega)) ?_
                            refine st rfl rfl rfl (op_assignO rfl rfl) ?_
                            refine AOps_nil ?_
                            refine AWp_seq ?_
                            -- region 32 ref.go:358
                            refine AWp_regL ?_
                            refine st rfl rfl rfl (op_moveO rfl rfl) ?_
                            refine st rfl rfl rfl (op_add64 rfl rfl rfl (by omega) (by omega)) ?_
                            refine st rfl rfl rfl (op_assignO rfl rfl) ?_
                            refine AOps_nil ?_
                            refine AWp_exit ?_
                            first | exact ⟨(i + u8 s i, out ++ s.extract i (i + u8 s i)), σ.length, ⟨by rw [← hq1]; exact (unqF_plain (by omega) (by omega) (by omega) (by omega) (by omega)).symm, by simp only; omega, by simp only; omega, by simp only [ByteArray.size_append, ByteArray.size_extract]; omega⟩, by simp only; omega, Nat.le_refl _, ⟨rfl, rfl, rfl, rfl, rfl, trivial⟩, hcl, by simp [ltE, AV.lt], List.take_length⟩ | exact ⟨(i + 12, out ++ rchar (65536 + 1024 * ((rhex s (i + 2)).1 - 55296) + rlow s (i + 6) - 56320)), σ.length, ⟨by rw [← hq1]; exact (unqF_pair (by omega) (by omega) (by omega) (by omega) (by omega)).symm, by simp only; omega, by simp only; omega, by simp only [ByteArray.size_append, ByteArray.size_extract]; omega⟩, by simp only; omega, Nat.le_refl _, ⟨rfl, rfl, rfl, rfl, rfl, trivial⟩, hcl, by simp [ltE, AV.lt], List.take_length⟩ | exact ⟨(i + 6, out ++ rchar (rhex s (i + 2)).1), σ.length, ⟨by rw [← hq1]; exact (unqF_u (by omega) (by omega) (by omega) (by omega) (by omega) (by omega)).symm, by simp only; omega, by simp only; omega, by simp only [ByteArray.size_append, ByteArray.size_extract]; omega⟩, by simp only; omega, Nat.le_refl _, ⟨rfl, rfl, rfl, rfl, rfl, trivial⟩, hcl, by simp [ltE, AV.lt], List.take_length⟩ | exact ⟨(i + 2, out ++ ⟨#[UInt8.ofNat b]⟩), σ.length, ⟨by rw [← hq1]; exact (unqF_e (by omega) (by omega) (by omega) hb).symm, by simp only; omega, by simp only; omega, by simp only [ByteArray.size_append, ByteArray.size_extract]; omega⟩, by simp only; omega, Nat.le_refl _, ⟨rfl, rfl, rfl, by rw [escK_all, hb]; rfl, rfl, trivial⟩, hcl, by simp [ltE, AV.lt], List.take_length⟩
                      · rw [h12]; (try simp only [decide_eq_true_eq, decide_eq_false_iff_not, Bool.not_eq_true', Bool.not_eq_false', Int.not_lt, Int.not_le, Bool.not_true, Bool.not_false, Int.toNat_natCast, tn1, tn2, tnn, bne_iff_ne, beq_iff_eq, beq_eq_false_iff_ne, ne_eq, Decidable.not_not] at h12)
                        refine stS rfl rfl rfl (.inl rfl) rfl rfl ?_
                        refine stS rfl rfl rfl (.inl rfl) rfl rfl ?_
                        refine st rfl rfl rfl (op_pickFO rfl rfl rfl) ?_
                        refine st rfl rfl rfl (op_moveO rfl rfl) ?_
                        refine stS rfl rfl rfl (.inl rfl) rfl rfl ?_
                        refine stS rfl rfl rfl (.inl rfl) rfl rfl ?_
                        refine st rfl rfl rfl (op_pickFO rfl rfl rfl) ?_
                        refine AOps_nil ?_
                        refine AWp_condF rfl ?_
                        refine AWp_skip ?_
                        refine AWp_seq ?_
                        refine AWp_seq ?_
                        -- region 29 ref.go:354
                        refine AWp_regL ?_
                        refine st rfl rfl rfl (op_moveO rfl rfl) ?_
                        refine st rfl rfl rfl (op_geq rfl rfl rfl) ?_
                        refine st rfl rfl rfl (op_moveO rfl rfl) ?_
                        refine AOps_split 121 rfl (fun h19 => ?_) (fun h19 => ?_)
                        · rw [h19]; (try simp only [decide_eq_true_eq, decide_eq_false_iff_not, Bool.not_eq_true', Bool.not_eq_false', Int.not_lt, Int.not_le, Bool.not_true, Bool.not_false, Int.toNat_natCast, tn1, tn2, tnn, bne_iff_ne, beq_iff_eq, beq_eq_false_iff_ne, ne_eq, Decidable.not_not] at h19)
                          refine stG rfl rfl rfl rfl rfl rfl (op_moveO rfl rfl) ?_
                          refine stG rfl rfl rfl rfl rfl rfl (op_lss rfl rfl rfl) ?_
                          refine st rfl rfl rfl (op_pickTO rfl rfl rfl) ?_
                          refine AOps_nil ?_
                          refine AWp_cond rfl (fun h20 => ?_) (fun h20 => ?_)
                          · (try rw [h20]); (try simp only [decide_eq_true_eq, decide_eq_false_iff_not, Bool.not_eq_true', Bool.not_eq_false', Int.not_lt, Int.not_le, Bool.not_true, Bool.not_false, Int.toNat_natCast, tn1, tn2, tnn, bne_iff_ne, beq_iff_eq, beq_eq_false_iff_ne, ne_eq, Decidable.not_not] at h20)
                            refine AWp_seq ?_
                            -- region 30 ref.go:355
                            refine AWp_regL ?_
                            refine st rfl rfl rfl (op_moveO rfl rfl) ?_
                            refine st rfl rfl rfl (op_assignO rfl rfl) ?_
                            refine st rfl rfl rfl (op_assignO rfl rfl) ?_
                            refine st rfl rfl rfl (op_assignO rfl rfl) ?_
                            refine st rfl rfl rfl (op_assignO rfl rfl) ?_
                            refine AOps_nil ?_
                            refine AWp_ret ?_
                            (try simp only [blockQ, thenQ])
                            first | (exfalso; omega; done) | (rw [← hq1, unqF_q (by omega) (by omega)]; exact ResQ_40 rfl rfl rfl rfl hcl (by simp [AV.lt, AV.ltL]) (Ret_of (by dsimp only; rw [Int.toNat_of_nonneg (show 0 ≤ a by omega)]))) | (rw [← hq1, unqF_ctl (by omega) (by omega)]; exact ResQ_40 rfl rfl rfl rfl hcl (by simp [AV.lt, AV.ltL]) (Ret_of rfl)) | (rw [← hq1, unqF_bad (by omega) (by omega) (by omega) (by omega) (by omega)]; exact ResQ_40 rfl rfl rfl rfl hcl (by simp [AV.lt, AV.ltL]) (Ret_of rfl)) | (rw [← hq1, unqF_last (by omega) (by omega)]; exact ResQ_40 rfl rfl rfl rfl hcl (by simp [AV.lt, AV.ltL]) (Ret_of rfl)) | (rw [← hq1, unqF_hb (by omega) (by omega) (by omega) (by omega)]; exact ResQ_40 rfl rfl rfl rfl hcl (by simp [AV.lt, AV.ltL]) (Ret_of rfl)) | (rw [← hq1, unqF_sur (by omega) (by omega) (by omega) (by omega) (by omega) (by omega)]; exact ResQ_40 rfl rfl rfl rfl hcl (by simp [AV.lt, AV.ltL]) (Ret_of rfl)) | (rw [← hq1, unqF_eb (by omega) (by omega) (by omega) (by assumption)]; exact ResQ_40 rfl rfl rfl rfl hcl (by simp [AV.lt, AV.ltL]) (Ret_of rfl)) | (rw [← hq1, unqF_end (by omega)]; exact ResQ_40 rfl rfl rfl rfl hcl (by simp [AV.lt, AV.ltL]) (Ret_of rfl))
                          · (try rw [h20]); (try simp only [decide_eq_true_eq, decide_eq_false_iff_not, Bool.not_eq_true', Bool.not_eq_false', Int.not_lt, Int.not_le, Bool.not_true, Bool.not_false, Int.toNat_natCast, tn1, tn2, tnn, bne_iff_ne, beq_iff_eq, beq_eq_false_iff_ne, ne_eq, Decidable.not_not] at h20)
                            refine AWp_skip ?_
                            refine AWp_seq ?_
                            -- region 31 ref.go:357
                            refine AWp_regL ?_
                            refine st rfl rfl rfl (op_moveO rfl rfl) ?_
                            refine st rfl rfl rfl (op_moveO rfl rfl) ?_
                            refine st rfl rfl rfl (op_callF rfl rfl rfl Tryd.func46 rfl rfl (char_c _ _ (by omega) (by omega))) ?_
                            refine st rfl rfl rfl (op_cat rfl rfl rfl (by omega)) ?_
                            refine st rfl rfl rfl (op_assignO rfl rfl) ?_
                            refine AOps_nil ?_
                            refine AWp_seq ?_
                            -- region 32 ref.go:358
                            refine AWp_regL ?_
                            refine st rfl rfl rfl (op_moveO rfl rfl) ?_
                            refine st rfl rfl rfl (op_add64 rfl rfl rfl (by omega) (by omega)) ?_
                            refine st rfl rfl rfl (op_assignO rfl rfl) ?_
                            refine AOps_nil ?_
                            refine AWp_exit ?_
                            first | exact ⟨(i + u8 s i, out ++ s.extract i (i + u8 s i)), σ.length, ⟨by rw [← hq1]; exact (unqF_plain (by omega) (by omega) (by omega) (by omega) (by omega)).symm, by simp only; omega, by simp only; omega, by simp only [ByteArray.size_append, ByteArray.size_extract]; omega⟩, by simp only; omega, Nat.le_refl _, ⟨rfl, rfl, rfl, rfl, rfl, trivial⟩, hcl, by simp [ltE, AV.lt], List.take_length⟩ | exact ⟨(i + 12, out ++ rchar (65536 + 1024 * ((rhex s (i + 2)).1 - 55296) + rlow s (i + 6) - 56320)), σ.length, ⟨by rw [← hq1]; exact (unqF_pair (by omega) (by omega) (by omega) (by omega) (by omega)).symm, by simp only; omega, by simp only; omega, by simp only [ByteArray.size_append, ByteArray.size_extract]; omega⟩, by simp only; omega, Nat.le_refl _, ⟨rfl, rfl, rfl, rfl, rfl, trivial⟩, hcl, by simp [ltE, AV.lt], List.take_length⟩ | exact ⟨(i + 6, out ++ rchar (rhex s (i + 2)).1), σ.length, ⟨by rw [← hq1]; exact (unqF_u (by omega) (by omega) (by omega) (by omega) (by omega) (by omega)).symm, by simp only; omega, by simp only; omega, by simp only [ByteArray.size_append, ByteArray.size_extract]; omega⟩, by simp only; omega, Nat.le_refl _, ⟨rfl, rfl, rfl, rfl, rfl, trivial⟩, hcl, by simp [ltE, AV.lt], List.take_length⟩ | exact ⟨(i + 2, out ++ ⟨#[UInt8.ofNat b]⟩), σ.length, ⟨by rw [← hq1]; exact (unqF_e (by omega) (by omega) (by omega) hb).symm, by simp only; omega, by simp only; omega, by simp only [ByteArray.size_append, ByteArray.size_extract]; omega⟩, by simp only; omega, Nat.le_refl _, ⟨rfl, rfl, rfl, by rw [escK_all, hb]; rfl, rfl, trivial⟩, hcl, by simp [ltE, AV.lt], List.take_length⟩
                        · rw [h19]; (try simp only [decide_eq_true_eq, decide_eq_false_iff_not, Bool.not_eq_true', Bool.not_eq_false', Int.not_lt, Int.not_le, Bool.not_true, Bool.not_false, Int.toNat_natCast, tn1, tn2, tnn, bne_iff_ne, beq_iff_eq, beq_eq_false_iff_ne, ne_eq, Decidable.not_not] at h19)
                          refine stS rfl rfl rfl (.inl rfl) rfl rfl ?_
                          refine stS rfl rfl rfl (.inl rfl) rfl rfl ?_
                          refine st rfl rfl rfl (op_pickFO rfl rfl rfl) ?_
                          refine AOps_nil ?_
                          refine AWp_condF rfl ?_
                          refine AWp_skip ?_
                          refine AWp_seq ?_
                          -- region 31 ref.go:357
                          refine AWp_regL ?_
                          refine st rfl rfl rfl (op_moveO rfl rfl) ?_
                          refine st rfl rfl rfl (op_moveO rfl rfl) ?_
                          refine st rfl rfl rfl (op_callF rfl rfl rfl Tryd.func46 rfl rfl (char_c _ _ (by omega) (by omega))) ?_
                          refine st rfl rfl rfl (op_cat rfl rfl rfl (by omega)) ?_
                          refine st rfl rfl rfl (op_assignO rfl rfl) ?_
                          refine AOps_nil ?_
                          refine AWp_seq ?_
                          -- region 32 ref.go:358
                          refine AWp_regL ?_
                          refine st rfl rfl rfl (op_moveO rfl rfl) ?_
                          refine st rfl rfl rfl (op_add64 rfl rfl rfl (by omega) (by omega)) ?_
                          refine st rfl rfl rfl (op_assignO rfl rfl) ?_
                          refine AOps_nil ?_
                          refine AWp_exit ?_
                          first | exact ⟨(i + u8 s i, out ++ s.extract i (i + u8 s i)), σ.length, ⟨by rw [← hq1]; exact (unqF_plain (by omega) (by omega) (by omega) (by omega) (by omega)).symm, by simp only; omega, by simp only; omega, by simp only [ByteArray.size_append, ByteArray.size_extract]; omega⟩, by simp only; omega, Nat.le_refl _, ⟨rfl, rfl, rfl, rfl, rfl, trivial⟩, hcl, by simp [ltE, AV.lt], List.take_length⟩ | exact ⟨(i + 12, out ++ rchar (65536 + 1024 * ((rhex s (i + 2)).1 - 55296) + rlow s (i + 6) - 56320)), σ.length, ⟨by rw [← hq1]; exact (unqF_pair (by omega) (by omega) (by omega) (by omega) (by omega)).symm, by simp only; omega, by simp only; omega, by simp only [ByteArray.size_append, ByteArray.size_extract]; omega⟩, by simp only; omega, Nat.le_refl _, ⟨rfl, rfl, rfl, rfl, rfl, trivial⟩, hcl, by simp [ltE, AV.lt], List.take_length⟩ | exact ⟨(i + 6, out ++ rchar (rhex s (i + 2)).1), σ.length, ⟨by rw [← hq1]; exact (unqF_u (by omega) (by omega) (by omega) (by omega) (by omega) (by omega)).symm, by simp only; omega, by simp only; omega, by simp only [ByteArray.size_append, ByteArray.size_extract]; omega⟩, by simp only; omega, Nat.le_refl _, ⟨rfl, rfl, rfl, rfl, rfl, trivial⟩, hcl, by simp [ltE, AV.lt], List.take_length⟩ | exact ⟨(i + 2, out ++ ⟨#[UInt8.ofNat b]⟩), σ.length, ⟨by rw [← hq1]; exact (unqF_e (by omega) (by omega) (by omega) hb).symm, by simp only; omega, by simp only; omega, by simp only [ByteArray.size_append, ByteArray.size_extract]; omega⟩, by simp only; omega, Nat.le_refl _, ⟨rfl, rfl, rfl, by rw [escK_all, hb]; rfl, rfl, trivial⟩, hcl, by simp [ltE, AV.lt], List.take_length⟩
                  · (try rw [h10]); (try simp only [decide_eq_true_eq, decide_eq_false_iff_not, Bool.not_eq_true', Bool.not_eq_false', Int.not_lt, Int.not_le, Bool.not_true, Bool.not_false, Int.toNat_natCast, tn1, tn2, tnn, bne_iff_ne, beq_iff_eq, beq_eq_false_iff_ne, ne_eq, Decidable.not_not] at h10)
                    refine AWp_skip ?_
                    refine AWp_seq ?_
                    -- region 33 ref.go:361
                    refine AWp_regL ?_
                    refine st rfl rfl rfl (op_assignO rfl rfl) ?_
                    refine AOps_nil ?_
                    refine AWp_seq ?_
                    -- region 34 ref.go:362
                    refine AWp_regL ?_
                    refine st rfl rfl rfl (op_buildSlice [[_], [_], [_], [_], [_], [_], [_], [_]] rfl Tryd.underlying64 Tryd.sizeOf5 Tryd.zeroValue5 rfl (by decide) (by decide) rfl rfl rfl rfl rfl) ?_
                    refine st rfl rfl rfl (op_assignO rfl rfl) ?_
                    refine AOps_nil ?_
                    refine AWp_seq ?_
                    -- region 35 ref.go:363
                    refine AWp_regL ?_
                    refine st rfl rfl rfl (op_assignO rfl rfl) ?_
                    refine AOps_nil ?_
                    refine AWp_seq ?_
                    refine AWp_seq ?_
                    -- region 36 ref.go:364
                    refine AWp_regL ?_
                    refine st rfl rfl rfl (op_assignO rfl rfl) ?_
                    refine AOps_nil ?_
                    refine AWp_block ?_
                    -- loop 1 LIVE 0:param 4:assign 5:assign 6:assign 7:assign 8:assign 9:assign 15:assign 16:assign 17:assign 18:assign
                    refine AWp_loop (ι := Nat) (fun k => k ≤ 8) (fun k => ⟨[], [(0, .str s), (1, .int .i64 a), (8, .str (escO out (escK (bat s (i + 1)).toNat k))), (9, .int .i64 (i : Int)), (15, .str fromS), (16, .sl true 1 [[AV.int .u8 34], [AV.int .u8 92], [AV.int .u8 47], [AV.int .u8 8], [AV.int .u8 12], [AV.int .u8 10], [AV.int .u8 13], [AV.int .u8 9]]), (17, .bool (escK (bat s (i + 1)).toNat k).isSome), (18, .int .i64 (k : Int))]⟩) (fun k => σ) (fun k => 8 - k) (0) (Nat.zero_le _) ?_ rfl (fun k hk => ?_)
                    · exact ⟨rfl, rfl, rfl, rfl, rfl, rfl, rfl, rfl, rfl, trivial⟩
                    have hfs : fromS.size = 8 := rfl
                    have hos := escO_size out (escK (bat s (i + 1)).toNat k)
                    have htb := @toB_lt k
                    refine AWp_seq ?_
                    refine AWp_seq ?_
                    -- region 37 ref.go:364
                    refine AWp_regL ?_
                    refine st rfl rfl rfl (op_moveO rfl rfl) ?_
                    refine st rfl rfl rfl (op_moveO rfl rfl) ?_
                    refine st rfl rfl rfl (op_lenStr rfl rfl Tryd.underlying9 rfl) ?_
                    refine st rfl rfl rfl (op_lss rfl rfl rfl) ?_
                    refine AOps_nil ?_
                    refine AWp_cond rfl (fun h21 => ?_) (fun h21 => ?_)
                    · (try rw [h21]); (try simp only [decide_eq_true_eq, decide_eq_false_iff_not, Bool.not_eq_true', Bool.not_eq_false', Int.not_lt, Int.not_le, Bool.not_true, Bool.not_false, Int.toNat_natCast, tn1, tn2, tnn, bne_iff_ne, beq_iff_eq, beq_eq_false_iff_ne, ne_eq, Decidable.not_not] at h21)
                      refine AWp_skip ?_
                      refine AWp_seq ?_
                      refine AWp_block ?_
                      refine AWp_seq ?_
                      -- region 39 ref.go:365 DRAWN
                      refine AWp_drawL #[0, 0, 3, 0, 0, 16, 56, 127] Tryd.mixed (by decide +kernel) (by decide +kernel) ?_
                      refine rA rfl rfl rfl rfl (fun _ => op_moveO rfl rfl) ?_
                      refine rA rfl rfl rfl rfl (fun _ => op_moveO rfl rfl) ?_
                      refine rA rfl rfl rfl rfl (fun _ => op_index_strB rfl Tryd.underlying9 rfl rfl (by omega) (by omega)) ?_
                      refine rA rfl rfl rfl rfl (fun _ => op_moveO rfl rfl) ?_
                      refine rA rfl rfl rfl rfl (fun _ => op_moveO rfl rfl) ?_
                      refine rA rfl rfl rfl rfl (fun _ => op_add64 rfl rfl rfl (by omega) (by omega)) ?_
                      refine rA rfl rfl rfl rfl (fun _ => op_index_strB rfl Tryd.underlying9 rfl rfl (by omega) (by omega)) ?_
                      simp only [tn1, Int.toNat_natCast]
                      refine rA rfl rfl rfl rfl (fun _ => op_eql rfl rfl rfl) ?_
                      refine RP.nil rfl ?_
                      refine AWp_cond rfl (fun h22 => ?_) (fun h22 => ?_)
                      · (try rw [h22]); (try simp only [decide_eq_true_eq, decide_eq_false_iff_not, Bool.not_eq_true', Bool.not_eq_false', Int.not_lt, Int.not_le, Bool.not_true, Bool.not_false, Int.toNat_natCast, tn1, tn2, tnn, bne_iff_ne, beq_iff_eq, beq_eq_false_iff_ne, ne_eq, Decidable.not_not] at h22)
                        refine AWp_seq ?_
                        -- region 40 ref.go:366
                        refine AWp_regL ?_
                        refine st rfl rfl rfl (op_moveO rfl rfl) ?_
                        refine st rfl rfl rfl (op_moveO rfl rfl) ?_
                        refine st rfl rfl rfl (op_moveO rfl rfl) ?_
                        refine st rfl rfl rfl (op_indexAddr rfl Tryd.underlying64 Tryd.sizeOf5 rfl rfl (by omega) (to_row (by omega))) ?_
                        simp only [Int.toNat_natCast]
                        refine st rfl rfl rfl (op_load1 rfl Tryd.isAgg5 (by first | exact ldv_own rfl rfl | exact ldv_pp rfl | exact ldv_old (by assumption) rfl | exact ldv_ptr (by assumption) rfl)) ?_
                        refine st rfl rfl rfl (op_buildSlice [[_]] rfl Tryd.underlying64 Tryd.sizeOf5 Tryd.zeroValue5 rfl (by decide) (by decide) rfl rfl rfl rfl rfl) ?_
                        refine st rfl rfl rfl (op_bytesStr (b := _) (m := 1) rfl Tryd.underlying64 Tryd.underlying5 Tryd.underlying9 (bs1 ⟨by omega, by omega⟩) rfl rfl) ?_
                        have h1s : (ByteArray.mk #[u8b (toB k : Int)]).size = 1 := rfl
                        refine st rfl rfl rfl (op_cat rfl rfl rfl (by omega)) ?_
                        refine st rfl rfl rfl (op_assignO rfl rfl) ?_
                        refine AOps_nil ?_
                        -- region 41 ref.go:367
                        refine AWp_regL ?_
                        refine st rfl rfl rfl (op_assignO rfl rfl) ?_
                        refine AOps_nil ?_
                        -- region 38 ref.go:364
                        refine AWp_regL ?_
                        refine st rfl rfl rfl (op_moveO rfl rfl) ?_
                        refine st rfl rfl rfl (op_add64 rfl rfl rfl (by omega) (by omega)) ?_
                        refine st rfl rfl rfl (op_assignO rfl rfl) ?_
                        refine AOps_nil ?_
                        have hk8 : k < 8 := by omega
                        have hhit := escK_hit (c := (bat s (i + 1)).toNat) hk8 (by omega)
                        have hho := escO_hit (out := out) (c := (bat s (i + 1)).toNat) hk8 (by omega)
                        refine ⟨k + 1, σ.length, by omega, by omega, Nat.le_refl _, ⟨rfl, rfl, rfl, ?_, rfl, rfl, rfl, ?_, rfl, trivial⟩, hcl, ?_, List.take_length⟩
                        · rw [← hho]; rfl
                        · rw [hhit.2]; rfl
                        · simp [ltE, AV.lt, AV.ltL, AV.ltLL]
                      · (try rw [h22]); (try simp only [decide_eq_true_eq, decide_eq_false_iff_not, Bool.not_eq_true', Bool.not_eq_false', Int.not_lt, Int.not_le, Bool.not_true, Bool.not_false, Int.toNat_natCast, tn1, tn2, tnn, bne_iff_ne, beq_iff_eq, beq_eq_false_iff_ne, ne_eq, Decidable.not_not] at h22)
                        refine AWp_skip ?_
                        -- region 38 ref.go:364
                        refine AWp_regL ?_
                        refine st rfl rfl rfl (op_moveO rfl rfl) ?_
                        refine st rfl rfl rfl (op_add64 rfl rfl rfl (by omega) (by omega)) ?_
                        refine st rfl rfl rfl (op_assignO rfl rfl) ?_
                        refine AOps_nil ?_
                        have hk8 : k < 8 := by omega
                        have hmiss := escK_miss (c := (bat s (i + 1)).toNat) hk8 (by omega)
                        refine ⟨k + 1, σ.length, by omega, by omega, Nat.le_refl _, ⟨rfl, rfl, rfl, ?_, rfl, rfl, rfl, ?_, rfl, trivial⟩, hcl, ?_, List.take_length⟩
                        · rw [hmiss]; rfl
                        · rw [hmiss]; rfl
                        · simp [ltE, AV.lt, AV.ltL, AV.ltLL]
                    · (try rw [h21]); (try simp only [decide_eq_true_eq, decide_eq_false_iff_not, Bool.not_eq_true', Bool.not_eq_false', Int.not_lt, Int.not_le, Bool.not_true, Bool.not_false, Int.toNat_natCast, tn1, tn2, tnn, bne_iff_ne, beq_iff_eq, beq_eq_false_iff_ne, ne_eq, Decidable.not_not] at h21)
                      refine AWp_exit ?_
                      refine AWp_seq ?_
                      refine AWp_seq ?_
                      -- region 42 ref.go:370
                      refine AWp_regL ?_
                      refine st rfl rfl rfl (op_moveO rfl rfl) ?_
                      refine st rfl rfl rfl (op_not rfl rfl) ?_
                      refine AOps_nil ?_
                      refine AWp_cond rfl (fun h23 => ?_) (fun h23 => ?_)
                      · (try rw [h23]); (try simp only [decide_eq_true_eq, decide_eq_false_iff_not, Bool.not_eq_true', Bool.not_eq_false', Int.not_lt, Int.not_le, Bool.not_true, Bool.not_false, Int.toNat_natCast, tn1, tn2, tnn, bne_iff_ne, beq_iff_eq, beq_eq_false_iff_ne, ne_eq, Decidable.not_not] at h23)
                        have h8 : k = 8 := by omega
                        subst h8
                        rw [escK_all] at h23
                        have h23 := Option.isNone_iff_eq_none.1 (by rw [← Option.not_isSome, h23]; rfl)
                        refine AWp_seq ?_
                        -- region 43 ref.go:371
                        refine AWp_regL ?_
                        refine st rfl rfl rfl (op_moveO rfl rfl) ?_
                        refine st rfl rfl rfl (op_add64 rfl rfl rfl (by omega) (by omega)) ?_
                        refine st rfl rfl rfl (op_assignO rfl rfl) ?_
                        refine st rfl rfl rfl (op_assignO rfl rfl) ?_
                        refine st rfl rfl rfl (op_assignO rfl rfl) ?_
                        refine st rfl rfl rfl (op_assignO rfl rfl) ?_
                        refine AOps_nil ?_
                        refine AWp_ret ?_
                        (try simp only [blockQ, thenQ])
                        first | (exfalso; omega; done) | (rw [← hq1, unqF_q (by omega) (by omega)]; exact ResQ_40 rfl rfl rfl rfl hcl (by simp [AV.lt, AV.ltL]) (Ret_of (by dsimp only; rw [Int.toNat_of_nonneg (show 0 ≤ a by omega)]))) | (rw [← hq1, unqF_ctl (by omega) (by omega)]; exact ResQ_40 rfl rfl rfl rfl hcl (by simp [AV.lt, AV.ltL]) (Ret_of rfl)) | (rw [← hq1, unqF_bad (by omega) (by omega) (by omega) (by omega) (by omega)]; exact ResQ_40 rfl rfl rfl rfl hcl (by simp [AV.lt, AV.ltL]) (Ret_of rfl)) | (rw [← hq1, unqF_last (by omega) (by omega)]; exact ResQ_40 rfl rfl rfl rfl hcl (by simp [AV.lt, AV.ltL]) (Ret_of rfl)) | (rw [← hq1, unqF_hb (by omega) (by omega) (by omega) (by omega)]; exact ResQ_40 rfl rfl rfl rfl hcl (by simp [AV.lt, AV.ltL]) (Ret_of rfl)) | (rw [← hq1, unqF_sur (by omega) (by omega) (by omega) (by omega) (by omega) (by omega)]; exact ResQ_40 rfl rfl rfl rfl hcl (by simp [AV.lt, AV.ltL]) (Ret_of rfl)) | (rw [← hq1, unqF_eb (by omega) (by omega) (by omega) (by assumption)]; exact ResQ_40 rfl rfl rfl rfl hcl (by simp [AV.lt, AV.ltL]) (Ret_of rfl)) | (rw [← hq1, unqF_end (by omega)]; exact ResQ_40 rfl rfl rfl rfl hcl (by simp [AV.lt, AV.ltL]) (Ret_of rfl))
                      · (try rw [h23]); (try simp only [decide_eq_true_eq, decide_eq_false_iff_not, Bool.not_eq_true', Bool.not_eq_false', Int.not_lt, Int.not_le, Bool.not_true, Bool.not_false, Int.toNat_natCast, tn1, tn2, tnn, bne_iff_ne, beq_iff_eq, beq_eq_false_iff_ne, ne_eq, Decidable.not_not] at h23)
                        have h8 : k = 8 := by omega
                        subst h8
                        rw [escK_all] at h23
                        obtain ⟨b, hb⟩ := Option.isSome_iff_exists.1 h23
                        have h1b : (ByteArray.mk #[UInt8.ofNat b]).size = 1 := rfl
                        refine AWp_skip ?_
                        -- region 44 ref.go:373
                        refine AWp_regL ?_
                        refine st rfl rfl rfl (op_moveO rfl rfl) ?_
                        refine st rfl rfl rfl (op_add64 rfl rfl rfl (by omega) (by omega)) ?_
                        refine st rfl rfl rfl (op_assignO rfl rfl) ?_
                        refine AOps_nil ?_
                        first | exact ⟨(i + u8 s i, out ++ s.extract i (i + u8 s i)), σ.length, ⟨by rw [← hq1]; exact (unqF_plain (by omega) (by omega) (by omega) (by omega) (by omega)).symm, by simp only; omega, by simp only; omega, by simp only [ByteArray.size_append, ByteArray.size_extract]; omega⟩, by simp only; omega, Nat.le_refl _, ⟨rfl, rfl, rfl, rfl, rfl, trivial⟩, hcl, by simp [ltE, AV.lt], List.take_length⟩ | exact ⟨(i + 12, out ++ rchar (65536 + 1024 * ((rhex s (i + 2)).1 - 55296) + rlow s (i + 6) - 56320)), σ.length, ⟨by rw [← hq1]; exact (unqF_pair (by omega) (by omega) (by omega) (by omega) (by omega)).symm, by simp only; omega, by simp only; omega, by simp only [ByteArray.size_append, ByteArray.size_extract]; omega⟩, by simp only; omega, Nat.le_refl _, ⟨rfl, rfl, rfl, rfl, rfl, trivial⟩, hcl, by simp [ltE, AV.lt], List.take_length⟩ | exact ⟨(i + 6, out ++ rchar (rhex s (i + 2)).1), σ.length, ⟨by rw [← hq1]; exact (unqF_u (by omega) (by omega) (by omega) (by omega) (by omega) (by omega)).symm, by simp only; omega, by simp only; omega, by simp only [ByteArray.size_append, ByteArray.size_extract]; omega⟩, by simp only; omega, Nat.le_refl _, ⟨rfl, rfl, rfl, rfl, rfl, trivial⟩, hcl, by simp [ltE, AV.lt], List.take_length⟩ | exact ⟨(i + 2, out ++ ⟨#[UInt8.ofNat b]⟩), σ.length, ⟨by rw [← hq1]; exact (unqF_e (by omega) (by omega) (by omega) hb).symm, by simp only; omega, by simp only; omega, by simp only [ByteArray.size_append, ByteArray.size_extract]; omega⟩, by simp only; omega, Nat.le_refl _, ⟨rfl, rfl, rfl, by rw [escK_all, hb]; rfl, rfl, trivial⟩, hcl, by simp [ltE, AV.lt], List.take_length⟩
        · (try rw [h4]); (try simp only [decide_eq_true_eq, decide_eq_false_iff_not, Bool.not_eq_true', Bool.not_eq_false', Int.not_lt, Int.not_le, Bool.not_true, Bool.not_false, Int.toNat_natCast, tn1, tn2, tnn, bne_iff_ne, beq_iff_eq, beq_eq_false_iff_ne, ne_eq, Decidable.not_not] at h4)
          refine AWp_exit ?_
          refine AWp_seq ?_
          -- region 45 ref.go:375
          refine AWp_regL ?_
          refine st rfl rfl rfl (op_moveO rfl rfl) ?_
          refine st rfl rfl rfl (op_lenStr rfl rfl Tryd.underlying9 rfl) ?_
          refine st rfl rfl rfl (op_assignO rfl rfl) ?_
          refine st rfl rfl rfl (op_assignO rfl rfl) ?_
          refine st rfl rfl rfl (op_assignO rfl rfl) ?_
          refine st rfl rfl rfl (op_assignO rfl rfl) ?_
          refine AOps_nil ?_
          refine AWp_ret ?_
          (try simp only [blockQ, thenQ])
          first | (exfalso; omega; done) | (rw [← hq1, unqF_q (by omega) (by omega)]; exact ResQ_40 rfl rfl rfl rfl hcl (by simp [AV.lt, AV.ltL]) (Ret_of (by dsimp only; rw [Int.toNat_of_nonneg (show 0 ≤ a by omega)]))) | (rw [← hq1, unqF_ctl (by omega) (by omega)]; exact ResQ_40 rfl rfl rfl rfl hcl (by simp [AV.lt, AV.ltL]) (Ret_of rfl)) | (rw [← hq1, unqF_bad (by omega) (by omega) (by omega) (by omega) (by omega)]; exact ResQ_40 rfl rfl rfl rfl hcl (by simp [AV.lt, AV.ltL]) (Ret_of rfl)) | (rw [← hq1, unqF_last (by omega) (by omega)]; exact ResQ_40 rfl rfl rfl rfl hcl (by simp [AV.lt, AV.ltL]) (Ret_of rfl)) | (rw [← hq1, unqF_hb (by omega) (by omega) (by omega) (by omega)]; exact ResQ_40 rfl rfl rfl rfl hcl (by simp [AV.lt, AV.ltL]) (Ret_of rfl)) | (rw [← hq1, unqF_sur (by omega) (by omega) (by omega) (by omega) (by omega) (by omega)]; exact ResQ_40 rfl rfl rfl rfl hcl (by simp [AV.lt, AV.ltL]) (Ret_of rfl)) | (rw [← hq1, unqF_eb (by omega) (by omega) (by omega) (by assumption)]; exact ResQ_40 rfl rfl rfl rfl hcl (by simp [AV.lt, AV.ltL]) (Ret_of rfl)) | (rw [← hq1, unqF_end (by omega)]; exact ResQ_40 rfl rfl rfl rfl hcl (by simp [AV.lt, AV.ltL]) (Ret_of rfl))

end Lg
set_option maxRecDepth 20000
set_option maxHeartbeats 4000000
namespace Lg
open Go Go.Proofs Go.RowKit
variable [GLay] [U8]


theorem strTells_c (b : ByteArray) (at_ : Int) (s : ByteArray) (σ : List AO) : ACalls Tryd.prog 6 [.str b, .int .i64 at_, .str s] σ (Ret (.bool true) σ) := by
  refine ACalls_body Tryd.func6 rfl Tryd.ntmps6 (res1 Tryd.results6) (Nat.le_of_ble_eq_true rfl) (fun hcl hal => ?_)
  refine AWp_seq ?_
  -- region 0 law.go:17
  refine AWp_regL ?_
  refine st rfl rfl rfl (op_assignO rfl rfl) ?_
  refine AOps_nil ?_
  refine AWp_seq ?_
  -- region 1 law.go:18
  refine AWp_regL ?_
  refine st rfl rfl rfl (op_callF rfl rfl rfl Tryd.func20 rfl rfl (up2_c _)) ?_
  refine st rfl rfl rfl (op_assignO rfl rfl) ?_
  refine AOps_nil ?_
  refine AWp_seq ?_
  refine AWp_seq ?_
  -- region 2 law.go:19
  refine AWp_regL ?_
  refine st rfl rfl rfl (op_moveO rfl rfl) ?_
  refine st rfl rfl rfl (op_lenStr rfl rfl Tryd.underlying9 rfl) ?_
  refine st rfl rfl rfl (op_gtr rfl rfl rfl) ?_
  refine st rfl rfl rfl (op_moveO rfl rfl) ?_
  refine AOps_split 22 rfl (fun h1 => ?_) (fun h1 => ?_)
  · rw [h1]; (try simp only [decide_eq_true_eq, decide_eq_false_iff_not, Bool.not_eq_true', Bool.not_eq_false', Int.not_lt, Int.not_le, Bool.not_true, Bool.not_false, Int.toNat_natCast, bne_iff_ne, beq_iff_eq, beq_eq_false_iff_ne, ne_eq, Decidable.not_not] at h1)
    refine stS rfl rfl rfl (.inl rfl) rfl rfl ?_
    refine stS rfl rfl rfl (.inl rfl) rfl rfl ?_
    refine stS rfl rfl rfl (.inl rfl) rfl rfl ?_
    refine st rfl rfl rfl (op_pickTO rfl rfl rfl) ?_
    refine AOps_nil ?_
    refine AWp_condT rfl ?_
    refine AWp_seq ?_
    -- region 3 law.go:20
    refine AWp_regL ?_
    refine st rfl rfl rfl (op_moveO rfl rfl) ?_
    refine st rfl rfl rfl (op_assignO rfl rfl) ?_
    refine AOps_nil ?_
    refine AWp_ret ?_
    (try simp only [blockQ, thenQ])
    exact ResQ_10 rfl hcl trivial ⟨rfl, rfl⟩
  · rw [h1]; (try simp only [decide_eq_true_eq, decide_eq_false_iff_not, Bool.not_eq_true', Bool.not_eq_false', Int.not_lt, Int.not_le, Bool.not_true, Bool.not_false, Int.toNat_natCast, bne_iff_ne, beq_iff_eq, beq_eq_false_iff_ne, ne_eq, Decidable.not_not] at h1)
    refine stG rfl rfl rfl rfl rfl rfl (op_moveO rfl rfl) ?_
    refine stG rfl rfl rfl rfl rfl rfl (op_lenStr rfl rfl Tryd.underlying9 rfl) ?_
    refine stG rfl rfl rfl rfl rfl rfl (op_gtr rfl rfl rfl) ?_
    refine st rfl rfl rfl (op_pickFO rfl rfl rfl) ?_
    refine AOps_nil ?_
    refine AWp_cond rfl (fun h2 => ?_) (fun h2 => ?_)
    · (try rw [h2]); (try simp only [decide_eq_true_eq, decide_eq_false_iff_not, Bool.not_eq_true', Bool.not_eq_false', Int.not_lt, Int.not_le, Bool.not_true, Bool.not_false, Int.toNat_natCast, bne_iff_ne, beq_iff_eq, beq_eq_false_iff_ne, ne_eq, Decidable.not_not] at h2)
      refine AWp_seq ?_
      -- region 3 law.go:20
      refine AWp_regL ?_
      refine st rfl rfl rfl (op_moveO rfl rfl) ?_
      refine st rfl rfl rfl (op_assignO rfl rfl) ?_
      refine AOps_nil ?_
      refine AWp_ret ?_
      (try simp only [blockQ, thenQ])
      exact ResQ_10 rfl hcl trivial ⟨rfl, rfl⟩
    · (try rw [h2]); (try simp only [decide_eq_true_eq, decide_eq_false_iff_not, Bool.not_eq_true', Bool.not_eq_false', Int.not_lt, Int.not_le, Bool.not_true, Bool.not_false, Int.toNat_natCast, bne_iff_ne, beq_iff_eq, beq_eq_false_iff_ne, ne_eq, Decidable.not_not] at h2)
      refine AWp_skip ?_
      refine AWp_seq ?_
      -- region 4 law.go:22
      refine AWp_regL ?_
      refine st rfl rfl rfl (op_moveO rfl rfl) ?_
      refine st rfl rfl rfl (op_moveO rfl rfl) ?_
      refine st rfl rfl rfl (op_callF rfl rfl rfl Tryd.func21 rfl rfl (unq_any b at_ _ (by omega))) ?_
      refine st rfl rfl rfl (op_moveO rfl rfl) ?_
      refine st rfl rfl rfl (op_extract rfl rfl rfl) ?_
      refine st rfl rfl rfl (op_extract rfl rfl rfl) ?_
      refine st rfl rfl rfl (op_extract rfl rfl rfl) ?_
      refine st rfl rfl rfl (op_assignO rfl rfl) ?_
      refine st rfl rfl rfl (op_assignO rfl rfl) ?_
      refine st rfl rfl rfl (op_assignO rfl rfl) ?_
      refine AOps_nil ?_
      refine AWp_seq ?_
      -- region 5 law.go:23
      refine AWp_regL ?_
      refine st rfl rfl rfl (op_moveO rfl rfl) ?_
      refine st rfl rfl rfl (op_moveO rfl rfl) ?_
      refine st rfl rfl rfl (op_callF rfl rfl rfl Tryd.func22 rfl rfl (unq_c b at_ _ (by omega))) ?_
      refine st rfl rfl rfl (op_moveO rfl rfl) ?_
      refine st rfl rfl rfl (op_extract rfl rfl rfl) ?_
      refine st rfl rfl rfl (op_extract rfl rfl rfl) ?_
      refine st rfl rfl rfl (op_extract rfl rfl rfl) ?_
      refine st rfl rfl rfl (op_extract rfl rfl rfl) ?_
      refine st rfl rfl rfl (op_assignO rfl rfl) ?_
      refine st rfl rfl rfl (op_assignO rfl rfl) ?_
      refine st rfl rfl rfl (op_assignO rfl rfl) ?_
      refine st rfl rfl rfl (op_assignO rfl rfl) ?_
      refine AOps_nil ?_
      refine AWp_seq ?_
      -- region 6 law.go:24
      refine AWp_regL ?_
      refine st rfl rfl rfl (op_moveO rfl rfl) ?_
      refine st rfl rfl rfl (op_callF rfl rfl rfl Tryd.func23 rfl rfl (spot_u (rUnq b at_) _ (rUnq_zero b at_))) ?_
      refine st rfl rfl rfl (op_moveO rfl rfl) ?_
      refine st rfl rfl rfl (op_extract rfl rfl rfl) ?_
      refine st rfl rfl rfl (op_extract rfl rfl rfl) ?_
      refine st rfl rfl rfl (op_assignO rfl rfl) ?_
      refine st rfl rfl rfl (op_assignO rfl rfl) ?_
      refine AOps_nil ?_
      refine AWp_seq ?_
      -- region 7 law.go:25
      refine AWp_regL ?_
      refine st rfl rfl rfl (op_moveO rfl rfl) ?_
      refine st rfl rfl rfl (op_callF rfl rfl rfl Tryd.func24 rfl rfl (text_c s _ (by omega))) ?_
      refine st rfl rfl rfl (op_assignO rfl rfl) ?_
      refine AOps_nil ?_
      refine AWp_seq ?_
      -- region 8 law.go:26
      refine AWp_regL ?_
      refine st rfl rfl rfl (op_moveO rfl rfl) ?_
      refine st rfl rfl rfl (op_moveO rfl rfl) ?_
      refine stG rfl rfl rfl rfl rfl rfl (op_moveO rfl rfl) ?_
      refine stG rfl rfl rfl rfl rfl rfl (op_moveO rfl rfl) ?_
      refine stG rfl rfl rfl rfl rfl rfl (op_seqT rfl rfl rfl rfl) ?_
      refine st rfl rfl rfl (op_pickTO rfl rfl rfl) ?_
      refine st rfl rfl rfl (op_moveO rfl rfl) ?_
      refine stG rfl rfl rfl rfl rfl rfl (op_moveO rfl rfl) ?_
      refine stG rfl rfl rfl rfl rfl rfl (op_moveO rfl rfl) ?_
      refine stG rfl rfl rfl rfl rfl rfl (op_eqlT rfl rfl rfl rfl) ?_
      refine st rfl rfl rfl (op_pickTO rfl rfl rfl) ?_
      refine st rfl rfl rfl (op_moveO rfl rfl) ?_
      refine stG rfl rfl rfl rfl rfl rfl (op_moveO rfl rfl) ?_
      refine stG rfl rfl rfl rfl rfl rfl (op_moveO rfl rfl) ?_
      refine stG rfl rfl rfl rfl rfl rfl (op_eqlT rfl rfl rfl rfl) ?_
      refine st rfl rfl rfl (op_pickTO rfl rfl rfl) ?_
      refine st rfl rfl rfl (op_moveO rfl rfl) ?_
      refine stG rfl rfl rfl rfl rfl rfl (op_moveO rfl rfl) ?_
      refine stG rfl rfl rfl rfl rfl rfl (op_moveO rfl rfl) ?_
      refine stG rfl rfl rfl rfl rfl rfl (op_eqlT rfl rfl rfl rfl) ?_
      refine st rfl rfl rfl (op_pickTO rfl rfl rfl) ?_
      refine st rfl rfl rfl (op_moveO rfl rfl) ?_
      refine stG rfl rfl rfl rfl rfl rfl (op_moveO rfl rfl) ?_
      refine stG rfl rfl rfl rfl rfl rfl (op_not rfl rfl) ?_
      refine stG rfl rfl rfl rfl rfl rfl (op_moveO rfl rfl) ?_
      refine AOps_split 74 rfl (fun h3 => ?_) (fun h3 => ?_)
      · rw [h3]; (try simp only [decide_eq_true_eq, decide_eq_false_iff_not, Bool.not_eq_true', Bool.not_eq_false', Int.not_lt, Int.not_le, Bool.not_true, Bool.not_false, Int.toNat_natCast, bne_iff_ne, beq_iff_eq, beq_eq_false_iff_ne, ne_eq, Decidable.not_not] at h3)
        refine stS rfl rfl rfl (.inl rfl) rfl rfl ?_
        refine stS rfl rfl rfl (.inl rfl) rfl rfl ?_
        refine stS rfl rfl rfl (.inl rfl) rfl rfl ?_
        refine stS rfl rfl rfl (.inl rfl) rfl rfl ?_
        refine stS rfl rfl rfl (.inl rfl) rfl rfl ?_
        refine stG rfl rfl rfl rfl rfl rfl (op_pickTO rfl rfl rfl) ?_
        refine st rfl rfl rfl (op_pickTO rfl rfl rfl) ?_
        refine st rfl rfl rfl (op_assignO rfl rfl) ?_
        refine AOps_nil ?_
        refine AWp_ret ?_
        (try simp only [blockQ, thenQ])
        exact ResQ_10 rfl hcl trivial ⟨rfl, rfl⟩
      · rw [h3]; (try simp only [decide_eq_true_eq, decide_eq_false_iff_not, Bool.not_eq_true', Bool.not_eq_false', Int.not_lt, Int.not_le, Bool.not_true, Bool.not_false, Int.toNat_natCast, bne_iff_ne, beq_iff_eq, beq_eq_false_iff_ne, ne_eq, Decidable.not_not] at h3)
        refine stG rfl rfl rfl rfl rfl rfl (op_moveO rfl rfl) ?_
        refine stG rfl rfl rfl rfl rfl rfl (op_callF rfl rfl rfl Tryd.func25 rfl rfl (quoteS_c s _ (by omega))) ?_
        refine stG rfl rfl rfl rfl rfl rfl (op_moveO rfl rfl) ?_
        refine stG rfl rfl rfl rfl rfl rfl (op_callF rfl rfl rfl Tryd.func26 rfl rfl (rquoteS_c s _ (by omega))) ?_
        refine stG rfl rfl rfl rfl rfl rfl (op_seqT rfl rfl rfl rfl) ?_
        refine stG rfl rfl rfl rfl rfl rfl (op_pickFO rfl rfl rfl) ?_
        refine st rfl rfl rfl (op_pickTO rfl rfl rfl) ?_
        refine st rfl rfl rfl (op_assignO rfl rfl) ?_
        refine AOps_nil ?_
        refine AWp_ret ?_
        (try simp only [blockQ, thenQ])
        exact ResQ_10 rfl hcl trivial ⟨rfl, rfl⟩

end Lg
set_option maxRecDepth 100000
set_option maxHeartbeats 4000000
namespace Go.Proofs.YtiihpckdafldkaaDoor
open Go Go.ChangeShapes Go.WideShapes Go.ChangeAt Go.RowKit Go.Lib
open Go.ChangeMaps (open_string shut_string)
theorem strTells_lifted (os : Os) (started : os.Started) (H : Type) (enc : TypeId × Value → H) :
    ReturnsInHanded {} Tryd.checked os 6 .any (fun w args => (Rows.strTellsSpec.pre enc Tryd.prog Tryd.f6 [] false w args ∧ laidMetH Tryd.prog Rows.strTellsRow.laid w) ∧ sizedMet enc Tryd.prog Tryd.f6 (OpenSpec.ofChange Rows.strTellsSpec) false w args)
      (Rows.strTellsSpec.post enc Tryd.prog Tryd.f6 false true false false) := by
  refine returnsInHanded_of_change_and (C := Tryd.checked) (X := fun w _ => laidMetH Tryd.prog Rows.strTellsRow.laid w) (fun _ _ _ hh h => h.of_heap hh) own started (by kernel_rfl) Tryd.func6
    (ChangeSpec.witness_shaped (enc := enc) (C := Tryd.checked) (os := os) (X := fun w _ => laidMetH Tryd.prog Rows.strTellsRow.laid w) false (laidWorld os) #[.string ⟨#[]⟩, .int .i64 0, .string ⟨#[]⟩] 8 rfl
      (World.shaped_of_RefB (by kernel_rfl) (by kernel_rfl)) (by kernel_rfl) (by kernel_rfl) (by kernel_rfl) (laid_metH os _)) ?_
  intro W base args ds gs before hval0 hW _ _ hL _
  have hval : ∀ (j : Nat) t v, Tryd.f6.params[j]? = some t → args[j]? = some v → Value.okWide Tryd.prog W .any base t v := hval0
  have hW' := hW
  obtain ⟨p, q, hA0, hV, rfl, hfz, hnd⟩ := hW
  have hA : DataW.TrodAll enc Tryd.prog W 0 (fun _ => true) true Tryd.f6.params.toList args.toList ds p := hA0
  rw [Tryd.params6] at hA hval
  obtain ⟨v0, vs0, d0, ds0, p0, q0, hargs, rfl, rfl, h0, r0⟩ := trodAll_cons hA
  obtain ⟨v1, vs1, d1, ds1, p1, q1, rfl, rfl, rfl, h1, r1⟩ := trodAll_cons r0
  obtain ⟨v2, vs2, d2, ds2, p2, q2, rfl, rfl, rfl, h2, r2⟩ := trodAll_cons r1
  obtain ⟨rfl, rfl, rfl⟩ := trodAll_nil r2
  obtain rfl : args = #[v0, v1, v2] := by cases args; simp_all
  obtain ⟨rfl, rfl⟩ := trodVars_none hV
  obtain ⟨x0, rfl, rfl, rfl, w0⟩ := open_string Tryd.underlying9 (hval 0 9 v0 rfl rfl) h0
  obtain ⟨x1, rfl, rfl, rfl, w1⟩ := open_int Tryd.underlying3 (hval 1 3 v1 rfl rfl) h1
  obtain ⟨x2, rfl, rfl, rfl, w2⟩ := open_string Tryd.underlying9 (hval 2 9 v2 rfl rfl) h2
  clear hA0 hval0
  simp only [List.append_nil] at hW'
  have hcall := calls_of (f := 6) (args := [.str x0, .int .i64 x1, .str x2]) (cargs := [.string x0, .int .i64 x1, .string x2]) (tabs_of hL)
    (fun st => (.cons (.str _) (.cons (.int _ _) (.cons (.str _) .nil))))
    (Lg.strTells_c x0 x1 x2 [])
  refine hcall.mono fun e W' ⟨he, hg⟩ => ?_
  subst he
  refine ⟨_, rfl, _, _, _, [], [], [], hW', trodAll_mk1 (shut_bool Tryd.underlying4 _), ?_, rfl, hg.frame _, fun h => by cases h⟩
  exact (trodAll_cons_mk (shut_string Tryd.underlying9 w0) (trodAll_cons_mk (shut_int Tryd.underlying3 w1) (trodAll_cons_mk (shut_string Tryd.underlying9 w2) trodAll_mk0)))

theorem strTells_holds : Rows.StrTellsSaid :=
  OpenClaim.holds_of_wide 6 Tryd.f6 rfl rfl rfl rfl rfl rfl rfl ⟨rfl, rfl, rfl, rfl, rfl⟩ rfl rfl rfl rfl rfl (by kernel_rfl) Tryd.func6 (by kernel_rfl)
    (of_decide_eq_true (by kernel_rfl)) (by unfold Func.isWrapper; first | (rw [if_pos (by decide +kernel)]; kernel_rfl) | (rw [if_neg (by decide +kernel)]; exact ⟨rfl, rfl⟩))
    (fun os started H enc _ => strTells_lifted os started H enc)
end Go.Proofs.YtiihpckdafldkaaDoor
