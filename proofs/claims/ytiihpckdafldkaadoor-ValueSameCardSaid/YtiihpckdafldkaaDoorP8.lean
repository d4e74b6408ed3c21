/- A part of the proof of ValueSame: Same is of one value with itself, both ways, and on from one to the next, and what follows of size, depth and members; for every input, with no condition: W16 Lp3 Lp4 Lp5 Lp6. -/
import Derived.Test.YtiihpckdafldkaaDoorP6
import Derived.Test.YtiihpckdafldkaaDoorP7
import Derived.Test.YtiihpckdafldkaaDoorProg
set_option linter.unusedVariables false
set_option linter.unusedSimpArgs false
set_option linter.unusedSectionVars false
set_option maxRecDepth 20000
set_option maxHeartbeats 4000000
namespace Lg
open Go Go.Proofs Go.RowKit
variable [GLay] 


theorem unq_c (s : ByteArray) (a : Int) (σ : List AO) (hs : s.size ≤ 1000000) : ACalls Tryd.prog 22 [.str s, .int .i64 a] σ (Ret (.tup [.str (rUnq s a).s, .int .i64 (rUnq s a).n, .int .i64 (rUnq s a).bad, .int .i64 (rUnq s a).at_]) σ) := by
  refine ACalls_body Tryd.func22 rfl Tryd.ntmps22 (res4 Tryd.results22) (Nat.le_of_ble_eq_true rfl) (fun hcl hal => ?_)
  refine AWp_seq ?_
  -- region 0 ref.go:314
  refine AWp_regL ?_
  refine st rfl rfl rfl (op_assignO rfl rfl) ?_
  refine st rfl rfl rfl (op_assignO rfl rfl) ?_
  refine st rfl rfl rfl (op_assignO rfl rfl) ?_
  refine st rfl rfl rfl (op_assignO rfl rfl) ?_
  refine AOps_nil ?_
  refine AWp_seq ?_
  refine AWp_seq ?_
  -- region 1 ref.go:315
  refine AWp_regL ?_
  have hz : (e0).size = 0 := rfl
  refine st rfl rfl rfl (op_moveO rfl rfl) ?_
  refine st rfl rfl rfl (op_lss rfl rfl rfl) ?_
  refine st rfl rfl rfl (op_moveO rfl rfl) ?_
  refine AOps_split 21 rfl (fun h1 => ?_) (fun h1 => ?_)
  · rw [h1]; (try simp only [decide_eq_true_eq, decide_eq_false_iff_not, Bool.not_eq_true', Bool.not_eq_false', Int.not_lt, Int.not_le, Bool.not_true, Bool.not_false, Int.toNat_natCast, tn1, tn2, tnn, bne_iff_ne, beq_iff_eq, beq_eq_false_iff_ne, ne_eq, Decidable.not_not] at h1)
    refine stS rfl rfl rfl (.inl rfl) rfl rfl ?_
    refine stS rfl rfl rfl (.inl rfl) rfl rfl ?_
    refine stS rfl rfl rfl (.inl rfl) rfl rfl ?_
    refine stS rfl rfl rfl (.inl rfl) rfl rfl ?_
    refine st rfl rfl rfl (op_pickTO rfl rfl rfl) ?_
    refine AOps_nil ?_
    refine AWp_condT rfl ?_
    refine AWp_seq ?_
    -- region 2 ref.go:316
    refine AWp_regL ?_
    refine st rfl rfl rfl (op_moveO rfl rfl) ?_
    refine st rfl rfl rfl (op_assignO rfl rfl) ?_
    refine st rfl rfl rfl (op_assignO rfl rfl) ?_
    refine st rfl rfl rfl (op_assignO rfl rfl) ?_
    refine st rfl rfl rfl (op_assignO rfl rfl) ?_
    refine AOps_nil ?_
    refine AWp_ret ?_
    (try simp only [blockQ, thenQ])
    have hE : rUnq s a = ⟨e0, 0, 1, a⟩ := by unfold rUnq; rw [if_pos (by omega)]
    rw [hE]; exact ResQ_40 rfl rfl rfl rfl hcl (by simp [AV.lt, AV.ltL]) (Ret_of rfl)
  · rw [h1]; (try simp only [decide_eq_true_eq, decide_eq_false_iff_not, Bool.not_eq_true', Bool.not_eq_false', Int.not_lt, Int.not_le, Bool.not_true, Bool.not_false, Int.toNat_natCast, tn1, tn2, tnn, bne_iff_ne, beq_iff_eq, beq_eq_false_iff_ne, ne_eq, Decidable.not_not] at h1)
    refine stG rfl rfl rfl rfl rfl rfl (op_moveO rfl rfl) ?_
    refine stG rfl rfl rfl rfl rfl rfl (op_moveO rfl rfl) ?_
    refine stG rfl rfl rfl rfl rfl rfl (op_lenStr rfl rfl Tryd.underlying9 rfl) ?_
    refine stG rfl rfl rfl rfl rfl rfl (op_geq rfl rfl rfl) ?_
    refine st rfl rfl rfl (op_pickFO rfl rfl rfl) ?_
    refine AOps_nil ?_
    refine AWp_cond rfl (fun h2 => ?_) (fun h2 => ?_)
    · (try rw [h2]); (try simp only [decide_eq_true_eq, decide_eq_false_iff_not, Bool.not_eq_true', Bool.not_eq_false', Int.not_lt, Int.not_le, Bool.not_true, Bool.not_false, Int.toNat_natCast, tn1, tn2, tnn, bne_iff_ne, beq_iff_eq, beq_eq_false_iff_ne, ne_eq, Decidable.not_not] at h2)
      refine AWp_seq ?_
      -- region 2 ref.go:316
      refine AWp_regL ?_
      refine st rfl rfl rfl (op_moveO rfl rfl) ?_
      refine st rfl rfl rfl (op_assignO rfl rfl) ?_
      refine st rfl rfl rfl (op_assignO rfl rfl) ?_
      refine st rfl rfl rfl (op_assignO rfl rfl) ?_
      refine st rfl rfl rfl (op_assignO rfl rfl) ?_
      refine AOps_nil ?_
      refine AWp_ret ?_
      (try simp only [blockQ, thenQ])
      have hE : rUnq s a = ⟨e0, 0, 1, a⟩ := by unfold rUnq; rw [if_pos (by omega)]
      rw [hE]; exact ResQ_40 rfl rfl rfl rfl hcl (by simp [AV.lt, AV.ltL]) (Ret_of rfl)
    · (try rw [h2]); (try simp only [decide_eq_true_eq, decide_eq_false_iff_not, Bool.not_eq_true', Bool.not_eq_false', Int.not_lt, Int.not_le, Bool.not_true, Bool.not_false, Int.toNat_natCast, tn1, tn2, tnn, bne_iff_ne, beq_iff_eq, beq_eq_false_iff_ne, ne_eq, Decidable.not_not] at h2)
      refine AWp_skip ?_
      refine AWp_seq ?_
      refine AWp_seq ?_
      -- region 3 ref.go:318
      refine AWp_regL ?_
      refine st rfl rfl rfl (op_moveO rfl rfl) ?_
      refine st rfl rfl rfl (op_moveO rfl rfl) ?_
      refine st rfl rfl rfl (op_index_strB rfl Tryd.underlying9 rfl rfl (by omega) (by omega)) ?_
      refine st rfl rfl rfl (op_neq rfl rfl rfl) ?_
      refine AOps_nil ?_
      refine AWp_cond rfl (fun h3 => ?_) (fun h3 => ?_)
      · (try rw [h3]); (try simp only [decide_eq_true_eq, decide_eq_false_iff_not, Bool.not_eq_true', Bool.not_eq_false', Int.not_lt, Int.not_le, Bool.not_true, Bool.not_false, Int.toNat_natCast, tn1, tn2, tnn, bne_iff_ne, beq_iff_eq, beq_eq_false_iff_ne, ne_eq, Decidable.not_not] at h3)
        refine AWp_seq ?_
        -- region 4 ref.go:319
        refine AWp_regL ?_
        refine st rfl rfl rfl (op_moveO rfl rfl) ?_
        refine st rfl rfl rfl (op_assignO rfl rfl) ?_
        refine st rfl rfl rfl (op_assignO rfl rfl) ?_
        refine st rfl rfl rfl (op_assignO rfl rfl) ?_
        refine st rfl rfl rfl (op_assignO rfl rfl) ?_
        refine AOps_nil ?_
        refine AWp_ret ?_
        (try simp only [blockQ, thenQ])
        have hE : rUnq s a = ⟨e0, 0, 1, a⟩ := by unfold rUnq; rw [if_neg (by omega), if_pos (by omega)]
        rw [hE]; exact ResQ_40 rfl rfl rfl rfl hcl (by simp [AV.lt, AV.ltL]) (Ret_of rfl)
      · (try rw [h3]); (try simp only [decide_eq_true_eq, decide_eq_false_iff_not, Bool.not_eq_true', Bool.not_eq_false', Int.not_lt, Int.not_le, Bool.not_true, Bool.not_false, Int.toNat_natCast, tn1, tn2, tnn, bne_iff_ne, beq_iff_eq, beq_eq_false_iff_ne, ne_eq, Decidable.not_not] at h3)
        refine AWp_skip ?_
        refine AWp_seq ?_
        -- region 5 ref.go:321
        refine AWp_regL ?_
        refine st rfl rfl rfl (op_assignO rfl rfl) ?_
        refine AOps_nil ?_
        refine AWp_seq ?_
        -- region 6 ref.go:322
        refine AWp_regL ?_
        refine st rfl rfl rfl (op_moveO rfl rfl) ?_
        refine st rfl rfl rfl (op_add64 rfl rfl rfl (by omega) (by omega)) ?_
        refine st rfl rfl rfl (op_assignO rfl rfl) ?_
        refine AOps_nil ?_
        refine AWp_seq ?_
        refine AWp_block ?_
        -- loop 0 LIVE 0:param 1:param 4:assign 5:assign 6:assign 7:assign 8:assign 9:assign
        refine AWp_loop (ι := Nat × ByteArray) (fun q => unqF s a.toNat q.1 q.2 = rUnq s a ∧ a.toNat < q.1 ∧ q.1 ≤ s.size ∧ q.2.size ≤ q.1) (fun q => ⟨[], [(0, .str s), (1, .int .i64 a), (8, .str q.2), (9, .int .i64 (q.1 : Int))]⟩) (fun q => σ) (fun q => s.size - q.1) ((a.toNat + 1, e0)) (⟨by unfold rUnq; rw [if_neg (by omega), if_neg (by omega)], by simp only; omega, by simp only; omega, by simp only; omega⟩) ?_ rfl (fun q hq => ?_)
        · refine ⟨rfl, rfl, rfl, rfl, ?_, trivial⟩
          simp only [Int.natCast_add, Int.toNat_of_nonneg (show 0 ≤ a by omega)]; rfl
        obtain ⟨i, out⟩ := q
        obtain ⟨hq1, hq2, hq3, hq4⟩ := hq
        simp only at hq1 hq2 hq3 hq4 ⊢
        have hbl := bat_lt s i
        refine AWp_seq ?_
        refine AWp_seq ?_
        -- region 7 ref.go:323
        refine AWp_regL ?_
        refine st rfl rfl rfl (op_moveO rfl rfl) ?_
        refine st rfl rfl rfl (op_moveO rfl rfl) ?_
        refine st rfl rfl rfl (op_lenStr rfl rfl Tryd.underlying9 rfl) ?_
        refine st rfl rfl rfl (op_lss rfl rfl rfl) ?_
        refine AOps_nil ?_
        refine AWp_cond rfl (fun h4 => ?_) (fun h4 => ?_)
        · (try rw [h4]); (try simp only [decide_eq_true_eq, decide_eq_false_iff_not, Bool.not_eq_true', Bool.not_eq_false', Int.not_lt, Int.not_le, Bool.not_true, Bool.not_false, Int.toNat_natCast, tn1, tn2, tnn, bne_iff_ne, beq_iff_eq, beq_eq_false_iff_ne, ne_eq, Decidable.not_not] at h4)
          refine AWp_skip ?_
          refine AWp_block ?_
          refine AWp_seq ?_
          -- region 8 ref.go:324
          refine AWp_regL ?_
          refine st rfl rfl rfl (op_moveO rfl rfl) ?_
          refine st rfl rfl rfl (op_moveO rfl rfl) ?_
          refine st rfl rfl rfl (op_index_strB rfl Tryd.underlying9 rfl rfl (by omega) (by omega)) ?_
          simp only [Int.toNat_natCast]
          refine st rfl rfl rfl (op_assignO rfl rfl) ?_
          refine AOps_nil ?_
          refine AWp_seq ?_
          refine AWp_seq ?_
          -- region 9 ref.go:325
          refine AWp_regL ?_
          refine st rfl rfl rfl (op_moveO rfl rfl) ?_
          refine st rfl rfl rfl (op_eql rfl rfl rfl) ?_
          refine AOps_nil ?_
          refine AWp_cond rfl (fun h5 => ?_) (fun h5 => ?_)
          · (try rw [h5]); (try simp only [decide_eq_true_eq, decide_eq_false_iff_not, Bool.not_eq_true', Bool.not_eq_false', Int.not_lt, Int.not_le, Bool.not_true, Bool.not_false, Int.toNat_natCast, tn1, tn2, tnn, bne_iff_ne, beq_iff_eq, beq_eq_false_iff_ne, ne_eq, Decidable.not_not] at h5)
            refine AWp_seq ?_
            -- region 10 ref.go:326
            refine AWp_regL ?_
            refine st rfl rfl rfl (op_moveO rfl rfl) ?_
            refine st rfl rfl rfl (op_moveO rfl rfl) ?_
            refine st rfl rfl rfl (op_add64 rfl rfl rfl (by omega) (by omega)) ?_
            refine st rfl rfl rfl (op_moveO rfl rfl) ?_
            refine st rfl rfl rfl (op_sub64 rfl rfl rfl (by omega) (by omega)) ?_
            refine st rfl rfl rfl (op_assignO rfl rfl) ?_
            refine st rfl rfl rfl (op_assignO rfl rfl) ?_
            refine st rfl rfl rfl (op_assignO rfl rfl) ?_
            refine st rfl rfl rfl (op_assignO rfl rfl) ?_
            refine AOps_nil ?_
            refine AWp_ret ?_
            (try simp only [blockQ, thenQ])
            first | (exfalso; omega; done) | (rw [← hq1, unqF_q (by omega) (by omega)]; exact ResQ_40 rfl rfl rfl rfl hcl (by simp [AV.lt, AV.ltL]) (Ret_of (by dsimp only; rw [Int.toNat_of_nonneg (show 0 ≤ a by omega)]))) | (rw [← hq1, unqF_ctl (by omega) (by omega)]; exact ResQ_40 rfl rfl rfl rfl hcl (by simp [AV.lt, AV.ltL]) (Ret_of rfl)) | (rw [← hq1, unqF_bad (by omega) (by omega) (by omega) (by omega) (by omega)]; exact ResQ_40 rfl rfl rfl rfl hcl (by simp [AV.lt, AV.ltL]) (Ret_of rfl)) | (rw [← hq1, unqF_last (by omega) (by omega)]; exact ResQ_40 rfl rfl rfl rfl hcl (by simp [AV.lt, AV.ltL]) (Ret_of rfl)) | (rw [← hq1, unqF_hb (by omega) (by omega) (by omega) (by omega)]; exact ResQ_40 rfl rfl rfl rfl hcl (by simp [AV.lt, AV.ltL]) (Ret_of rfl)) | (rw [← hq1, unqF_sur (by omega) (by omega) (by omega) (by omega) (by omega) (by omega)]; exact ResQ_40 rfl rfl rfl rfl hcl (by simp [AV.lt, AV.ltL]) (Ret_of rfl)) | (rw [← hq1, unqF_eb (by omega) (by omega) (by omega) (by assumption)]; exact ResQ_40 rfl rfl rfl rfl hcl (by simp [AV.lt, AV.ltL]) (Ret_of rfl)) | (rw [← hq1, unqF_end (by omega)]; exact ResQ_40 rfl rfl rfl rfl hcl (by simp [AV.lt, AV.ltL]) (Ret_of rfl))
          · (try rw [h5]); (try simp only [decide_eq_true_eq, decide_eq_false_iff_not, Bool.not_eq_true', Bool.not_eq_false', Int.not_lt, Int.not_le, Bool.not_true, Bool.not_false, Int.toNat_natCast, tn1, tn2, tnn, bne_iff_ne, beq_iff_eq, beq_eq_false_iff_ne, ne_eq, Decidable.not_not] at h5)
            refine AWp_skip ?_
            refine AWp_seq ?_
            refine AWp_seq ?_
            -- region 11 ref.go:328
            refine AWp_regL ?_
            refine st rfl rfl rfl (op_moveO rfl rfl) ?_
            refine st rfl rfl rfl (op_lss rfl rfl rfl) ?_
            refine AOps_nil ?_
            refine AWp_cond rfl (fun h6 => ?_) (fun h6 => ?_)
            · (try rw [h6]); (try simp only [decide_eq_true_eq, decide_eq_false_iff_not, Bool.not_eq_true', Bool.not_eq_false', Int.not_lt, Int.not_le, Bool.not_true, Bool.not_false, Int.toNat_natCast, tn1, tn2, tnn, bne_iff_ne, beq_iff_eq, beq_eq_false_iff_ne, ne_eq, Decidable.not_not] at h6)
              refine AWp_seq ?_
              -- region 12 ref.go:329
              refine AWp_regL ?_
              refine st rfl rfl rfl (op_moveO rfl rfl) ?_
              refine st rfl rfl rfl (op_assignO rfl rfl) ?_
              refine st rfl rfl rfl (op_assignO rfl rfl) ?_
              refine st rfl rfl rfl (op_assignO rfl rfl) ?_
              refine st rfl rfl rfl (op_assignO rfl rfl) ?_
              refine AOps_nil ?_
              refine AWp_ret ?_
              (try simp only [blockQ, thenQ])
              first | (exfalso; omega; done) | (rw [← hq1, unqF_q (by omega) (by omega)]; exact ResQ_40 rfl rfl rfl rfl hcl (by simp [AV.lt, AV.ltL]) (Ret_of (by dsimp only; rw [Int.toNat_of_nonneg (show 0 ≤ a by omega)]))) | (rw [← hq1, unqF_ctl (by omega) (by omega)]; exact ResQ_40 rfl rfl rfl rfl hcl (by simp [AV.lt, AV.ltL]) (Ret_of rfl)) | (rw [← hq1, unqF_bad (by omega) (by omega) (by omega) (by omega) (by omega)]; exact ResQ_40 rfl rfl rfl rfl hcl (by simp [AV.lt, AV.ltL]) (Ret_of rfl)) | (rw [← hq1, unqF_last (by omega) (by omega)]; exact ResQ_40 rfl rfl rfl rfl hcl (by simp [AV.lt, AV.ltL]) (Ret_of rfl)) | (rw [← hq1, unqF_hb (by omega) (by omega) (by omega) (by omega)]; exact ResQ_40 rfl rfl rfl rfl hcl (by simp [AV.lt, AV.ltL]) (Ret_of rfl)) | (rw [← hq1, unqF_sur (by omega) (by omega) (by omega) (by omega) (by omega) (by omega)]; exact ResQ_40 rfl rfl rfl rfl hcl (by simp [AV.lt, AV.ltL]) (Ret_of rfl)) | (rw [← hq1, unqF_eb (by omega) (by omega) (by omega) (by assumption)]; exact ResQ_40 rfl rfl rfl rfl hcl (by simp [AV.lt, AV.ltL]) (Ret_of rfl)) | (rw [← hq1, unqF_end (by omega)]; exact ResQ_40 rfl rfl rfl rfl hcl (by simp [AV.lt, AV.ltL]) (Ret_of rfl))
            · (try rw [h6]); (try simp only [decide_eq_true_eq, decide_eq_false_iff_not, Bool.not_eq_true', Bool.not_eq_false', Int.not_lt, Int.not_le, Bool.not_true, Bool.not_false, Int.toNat_natCast, tn1, tn2, tnn, bne_iff_ne, beq_iff_eq, beq_eq_false_iff_ne, ne_eq, Decidable.not_not] at h6)
              refine AWp_skip ?_
              refine AWp_seq ?_
              refine AWp_seq ?_
              -- region 13 ref.go:331
              refine AWp_regL ?_
              refine st rfl rfl rfl (op_moveO rfl rfl) ?_
              refine st rfl rfl rfl (op_neq rfl rfl rfl) ?_
              refine AOps_nil ?_
              refine AWp_cond rfl (fun h7 => ?_) (fun h7 => ?_)
              · (try rw [h7]); (try simp only [decide_eq_true_eq, decide_eq_false_iff_not, Bool.not_eq_true', Bool.not_eq_false', Int.not_lt, Int.not_le, Bool.not_true, Bool.not_false, Int.toNat_natCast, tn1, tn2, tnn, bne_iff_ne, beq_iff_eq, beq_eq_false_iff_ne, ne_eq, Decidable.not_not] at h7)
                refine AWp_seq ?_
                -- region 14 ref.go:332
                refine AWp_regL ?_
                have hu := u8_le (s := s) (a := i) (by omega)
                refine st rfl rfl rfl (op_moveO rfl rfl) ?_
                refine st rfl rfl rfl (op_moveO rfl rfl) ?_
                refine st rfl rfl rfl (op_callF rfl rfl rfl Tryd.func43 rfl rfl (utf8_c s (i : Int) _ (by omega) (by omega) (by omega))) ?_
                simp only [Int.toNat_natCast]
                refine st rfl rfl rfl (op_assignO rfl rfl) ?_
                refine AOps_nil ?_
                refine AWp_seq ?_
                refine AWp_seq ?_
                -- region 15 ref.go:333
                refine AWp_regL ?_
                refine st rfl rfl rfl (op_moveO rfl rfl) ?_
                refine st rfl rfl rfl (op_eql rfl rfl rfl) ?_
                refine AOps_nil ?_
                refine AWp_cond rfl (fun h8 => ?_) (fun h8 => ?_)
                · (try rw [h8]); (try simp only [decide_eq_true_eq, decide_eq_false_iff_not, Bool.not_eq_true', Bool.not_eq_false', Int.not_lt, Int.not_le, Bool.not_true, Bool.not_false, Int.toNat_natCast, tn1, tn2, tnn, bne_iff_ne, beq_iff_eq, beq_eq_false_iff_ne, ne_eq, Decidable.not_not] at h8)
                  refine AWp_seq ?_
                  -- region 16 ref.go:334
                  refine AWp_regL ?_
                  refine st rfl rfl rfl (op_moveO rfl rfl) ?_
                  refine st rfl rfl rfl (op_assignO rfl rfl) ?_
                  refine st rfl rfl rfl (op_assignO rfl rfl) ?_
                  refine st rfl rfl rfl (op_assignO rfl rfl) ?_
                  refine st rfl rfl rfl (op_assignO rfl rfl) ?_
                  refine AOps_nil ?_
                  refine AWp_ret ?_
                  (try simp only [blockQ, thenQ])
                  first | (exfalso; omega; done) | (rw [← hq1, unqF_q (by omega) (by omega)]; exact ResQ_40 rfl rfl rfl rfl hcl (by simp [AV.lt, AV.ltL]) (Ret_of (by dsimp only; rw [Int.toNat_of_nonneg (show 0 ≤ a by omega)]))) | (rw [← hq1, unqF_ctl (by omega) (by omega)]; exact ResQ_40 rfl rfl rfl rfl hcl (by simp [AV.lt, AV.ltL]) (Ret_of rfl)) | (rw [← hq1, unqF_bad (by omega) (by omega) (by omega) (by omega) (by omega)]; exact ResQ_40 rfl rfl rfl rfl hcl (by simp [AV.lt, AV.ltL]) (Ret_of rfl)) | (rw [← hq1, unqF_last (by omega) (by omega)]; exact ResQ_40 rfl rfl rfl rfl hcl (by simp [AV.lt, AV.ltL]) (Ret_of rfl)) | (rw [← hq1, unqF_hb (by omega) (by omega) (by omega) (by omega)]; exact ResQ_40 rfl rfl rfl rfl hcl (by simp [AV.lt, AV.ltL]) (Ret_of rfl)) | (rw [← hq1, unqF_sur (by omega) (by omega) (by omega) (by omega) (by omega) (by omega)]; exact ResQ_40 rfl rfl rfl rfl hcl (by simp [AV.lt, AV.ltL]) (Ret_of rfl)) | (rw [← hq1, unqF_eb (by omega) (by omega) (by omega) (by assumption)]; exact ResQ_40 rfl rfl rfl rfl hcl (by simp [AV.lt, AV.ltL]) (Ret_of rfl)) | (rw [← hq1, unqF_end (by omega)]; exact ResQ_40 rfl rfl rfl rfl hcl (by simp [AV.lt, AV.ltL]) (Ret_of rfl))
                · (try rw [h8]); (try simp only [decide_eq_true_eq, decide_eq_false_iff_not, Bool.not_eq_true', Bool.not_eq_false', Int.not_lt, Int.not_le, Bool.not_true, Bool.not_false, Int.toNat_natCast, tn1, tn2, tnn, bne_iff_ne, beq_iff_eq, beq_eq_false_iff_ne, ne_eq, Decidable.not_not] at h8)
                  refine AWp_skip ?_
                  refine AWp_seq ?_
                  -- region 17 ref.go:336
                  refine AWp_regL ?_
                  refine st rfl rfl rfl (op_moveO rfl rfl) ?_
                  refine st rfl rfl rfl (op_moveO rfl rfl) ?_
                  refine st rfl rfl rfl (op_moveO rfl rfl) ?_
                  refine st rfl rfl rfl (op_moveO rfl rfl) ?_
                  refine st rfl rfl rfl (op_moveO rfl rfl) ?_
                  refine st rfl rfl rfl (op_add64 rfl rfl rfl (by omega) (by omega)) ?_
                  refine st rfl rfl rfl (op_slice_str _ _ rfl Tryd.underlying9 rfl (by first | exact ⟨_, rfl⟩ | rfl) (by first | exact ⟨_, rfl⟩ | rfl) (by omega) (by omega) (by omega)) ?_
                  simp only [Int.toNat_natCast, tnn]
                  have hxs : (s.extract i (i + u8 s i)).size ≤ s.size := by rw [ByteArray.size_extract]; omega
                  refine st rfl rfl rfl (op_cat rfl rfl rfl (by omega)) ?_
                  refine st rfl rfl rfl (op_assignO rfl rfl) ?_
                  refine AOps_nil ?_
                  refine AWp_seq ?_
                  -- region 18 ref.go:337
                  refine AWp_regL ?_
                  refine st rfl rfl rfl (op_moveO rfl rfl) ?_
                  refine st rfl rfl rfl (op_moveO rfl rfl) ?_
                  refine st rfl rfl rfl (op_add64 rfl rfl rfl (by omega) (by omega)) ?_
                  refine st rfl rfl rfl (op_assignO rfl rfl) ?_
                  refine AOps_nil ?_
                  refine AWp_exit ?_
                  first | exact ⟨(i + u8 s i, out ++ s.extract i (i + u8 s i)), σ.length, ⟨by rw [← hq1]; exact (unqF_plain (by omega) (by omega) (by omega) (by omega) (by omega)).symm, by simp only; omega, by simp only; omega, by simp only [ByteArray.size_append, ByteArray.size_extract]; omega⟩, by simp only; omega, Nat.le_refl _, ⟨rfl, rfl, rfl, rfl, rfl, trivial⟩, hcl, by simp [ltE, AV.lt], List.take_length⟩ | exact ⟨(i + 12, out ++ rchar (65536 + 1024 * ((rhex s (i + 2)).1 - 55296) + rlow s (i + 6) - 56320)), σ.length, ⟨by rw [← hq1]; exact (unqF_pair (by omega) (by omega) (by omega) (by omega) (by omega)).symm, by simp only; omega, by simp only; omega, by simp only [ByteArray.size_append, ByteArray.size_extract]; omega⟩, by simp only; omega, Nat.le_refl _, ⟨rfl, rfl, rfl, rfl, rfl, trivial⟩, hcl, by simp [ltE, AV.lt], List.take_length⟩ | exact ⟨(i + 6, out ++ rchar (rhex s (i + 2)).1), σ.length, ⟨by rw [← hq1]; exact (unqF_u (by omega) (by omega) (by omega) (by omega) (by omega) (by omega)).symm, by simp only; omega, by simp only; omega, by simp only [ByteArray.size_append, ByteArray.size_extract]; omega⟩, by simp only; omega, Nat.le_refl _, ⟨rfl, rfl, rfl, rfl, rfl, trivial⟩, hcl, by simp [ltE, AV.lt], List.take_length⟩ | exact ⟨(i + 2, out ++ ⟨#[UInt8.ofNat b]⟩), σ.length, ⟨by rw [← hq1]; exact (unqF_e (by omega) (by omega) (by omega) hb).symm, by simp only; omega, by simp only; omega, by simp only [ByteArray.size_append, ByteArray.size_extract]; omega⟩, by simp only; omega, Nat.le_refl _, ⟨rfl, rfl, rfl, by rw [escK_all, hb]; rfl, rfl, trivial⟩, hcl, by simp [ltE, AV.lt], List.take_length⟩
              · (try rw [h7]); (try simp only [decide_eq_true_eq, decide_eq_false_iff_not, Bool.not_eq_true', Bool.not_eq_false', Int.not_lt, Int.not_le, Bool.not_true, Bool.not_false, Int.toNat_natCast, tn1, tn2, tnn, bne_iff_ne, beq_iff_eq, beq_eq_false_iff_ne, ne_eq, Decidable.not_not] at h7)
                refine AWp_skip ?_
                refine AWp_seq ?_
                refine AWp_seq ?_
                -- region 19 ref.go:340
                refine AWp_regL ?_
                refine st rfl rfl rfl (op_moveO rfl rfl) ?_
                refine st rfl rfl rfl (op_add64 rfl rfl rfl (by omega) (by omega)) ?_
                refine st rfl rfl rfl (op_moveO rfl rfl) ?_
                refine st rfl rfl rfl (op_lenStr rfl rfl Tryd.underlying9 rfl) ?_
                refine st rfl rfl rfl (op_eql rfl rfl rfl) ?_
                refine AOps_nil ?_
                refine AWp_cond rfl (fun h9 => ?_) (fun h9 => ?_)
                · (try rw [h9]); (try simp only [decide_eq_true_eq, decide_eq_false_iff_not, Bool.not_eq_true', Bool.not_eq_false', Int.not_lt, Int.not_le, Bool.not_true, Bool.not_false, Int.toNat_natCast, tn1, tn2, tnn, bne_iff_ne, beq_iff_eq, beq_eq_false_iff_ne, ne_eq, Decidable.not_not] at h9)
                  refine AWp_seq ?_
                  -- region 20 ref.go:341
                  refine AWp_regL ?_
                  refine st rfl rfl rfl (op_moveO rfl rfl) ?_
                  refine st rfl rfl rfl (op_lenStr rfl rfl Tryd.underlying9 rfl) ?_
                  refine st rfl rfl rfl (op_assignO rfl rfl) ?_
                  refine st rfl rfl rfl (op_assignO rfl rfl) ?_
                  refine st rfl rfl rfl (op_assignO rfl rfl) ?_
                  refine st rfl rfl rfl (op_assignO rfl rfl) ?_
                  refine AOps_nil ?_
                  refine AWp_ret ?_
                  (try simp only [blockQ, thenQ])
                  first | (exfalso; omega; done) | (rw [← hq1, unqF_q (by omega) (by omega)]; exact ResQ_40 rfl rfl rfl rfl hcl (by simp [AV.lt, AV.ltL]) (Ret_of (by dsimp only; rw [Int.toNat_of_nonneg (show 0 ≤ a by omega)]))) | (rw [← hq1, unqF_ctl (by omega) (by omega)]; exact ResQ_40 rfl rfl rfl rfl hcl (by simp [AV.lt, AV.ltL]) (Ret_of rfl)) | (rw [← hq1, unqF_bad (by omega) (by omega) (by omega) (by omega) (by omega)]; exact ResQ_40 rfl rfl rfl rfl hcl (by simp [AV.lt, AV.ltL]) (Ret_of rfl)) | (rw [← hq1, unqF_last (by omega) (by omega)]; exact ResQ_40 rfl rfl rfl rfl hcl (by simp [AV.lt, AV.ltL]) (Ret_of rfl)) | (rw [← hq1, unqF_hb (by omega) (by omega) (by omega) (by omega)]; exact ResQ_40 rfl rfl rfl rfl hcl (by simp [AV.lt, AV.ltL]) (Ret_of rfl)) | (rw [← hq1, unqF_sur (by omega) (by omega) (by omega) (by omega) (by omega) (by omega)]; exact ResQ_40 rfl rfl rfl rfl hcl (by simp [AV.lt, AV.ltL]) (Ret_of rfl)) | (rw [← hq1, unqF_eb (by omega) (by omega) (by omega) (by assumption)]; exact ResQ_40 rfl rfl rfl rfl hcl (by simp [AV.lt, AV.ltL]) (Ret_of rfl)) | (rw [← hq1, unqF_end (by omega)]; exact ResQ_40 rfl rfl rfl rfl hcl (by simp [AV.lt, AV.ltL]) (Ret_of rfl))
                · (try rw [h9]); (try simp only [decide_eq_true_eq, decide_eq_false_iff_not, Bool.not_eq_true', Bool.not_eq_false', Int.not_lt, Int.not_le, Bool.not_true, Bool.not_false, Int.toNat_natCast, tn1, tn2, tnn, bne_iff_ne, beq_iff_eq, beq_eq_false_iff_ne, ne_eq, Decidable.not_not] at h9)
                  refine AWp_skip ?_
                  refine AWp_seq ?_
                  refine AWp_seq ?_
                  -- region 21 ref.go:343
                  refine AWp_regL ?_
                  refine st rfl rfl rfl (op_moveO rfl rfl) ?_
                  refine st rfl rfl rfl (op_moveO rfl rfl) ?_
                  refine st rfl rfl rfl (op_add64 rfl rfl rfl (by omega) (by omega)) ?_
                  refine st rfl rfl rfl (op_index_strB rfl Tryd.underlying9 rfl rfl (by omega) (by omega)) ?_
                  simp only [tn1]
                  refine st rfl rfl rfl (op_eql rfl rfl rfl) ?_
                  refine AOps_nil ?_
                  refine AWp_cond rfl (fun h10 => ?_) (fun h10 => ?_)
                  · (try rw [h10]); (try simp only [decide_eq_true_eq, decide_eq_false_iff_not, Bool.not_eq_true', Bool.not_eq_false', Int.not_lt, Int.not_le, Bool.not_true, Bool.not_false, Int.toNat_natCast, tn1, tn2, tnn, bne_iff_ne, beq_iff_eq, beq_eq_false_iff_ne, ne_eq, Decidable.not_not] at h10)
                    refine AWp_seq ?_
                    -- region 22 ref.go:344
                    refine AWp_regL ?_
                    have hx := rhex_ok s (i + 2)
                    have hlw := rlow_ok s (i + 6)
                    have hc1 := rchar_size (65536 + 1024 * ((rhex s (i + 2)).1 - 55296) + rlow s (i + 6) - 56320)
                    have hc2 := rchar_size (rhex s (i + 2)).1
                    refine st rfl rfl rfl (op_moveO rfl rfl) ?_
                    refine st rfl rfl rfl (op_moveO rfl rfl) ?_
                    refine st rfl rfl rfl (op_add64 rfl rfl rfl (by omega) (by omega)) ?_
                    refine st rfl rfl rfl (op_callF rfl rfl rfl Tryd.func44 rfl rfl (hex_c s (i + 2) _ hs (by omega))) ?_
                    refine st rfl rfl rfl (op_moveO rfl rfl) ?_
                    refine st rfl rfl rfl (op_extract rfl rfl rfl) ?_
                    refine st rfl rfl rfl (op_extract rfl rfl rfl) ?_
                    refine st rfl rfl rfl (op_assignO rfl rfl) ?_
                    refine st rfl rfl rfl (op_assignO rfl rfl) ?_
                    refine AOps_nil ?_
                    refine AWp_seq ?_
                    refine AWp_seq ?_
                    -- region 23 ref.go:345
                    refine AWp_regL ?_
                    refine st rfl rfl rfl (op_moveO rfl rfl) ?_
                    refine st rfl rfl rfl (op_geq rfl rfl rfl) ?_
                    refine AOps_nil ?_
                    refine AWp_cond rfl (fun h11 => ?_) (fun h11 => ?_)
                    · (try rw [h11]); (try simp only [decide_eq_true_eq, decide_eq_false_iff_not, Bool.not_eq_true', Bool.not_eq_false', Int.not_lt, Int.not_le, Bool.not_true, Bool.not_false, Int.toNat_natCast, tn1, tn2, tnn, bne_iff_ne, beq_iff_eq, beq_eq_false_iff_ne, ne_eq, Decidable.not_not] at h11)
                      refine AWp_seq ?_
                      -- region 24 ref.go:346
                      refine AWp_regL ?_
                      refine st rfl rfl rfl (op_moveO rfl rfl) ?_
                      refine st rfl rfl rfl (op_assignO rfl rfl) ?_
                      refine st rfl rfl rfl (op_assignO rfl rfl) ?_
                      refine st rfl rfl rfl (op_assignO rfl rfl) ?_
                      refine st rfl rfl rfl (op_assignO rfl rfl) ?_
                      refine AOps_nil ?_
                      refine AWp_ret ?_
                      (try simp only [blockQ, thenQ])
                      first | (exfalso; omega; done) | (rw [← hq1, unqF_q (by omega) (by omega)]; exact ResQ_40 rfl rfl rfl rfl hcl (by simp [AV.lt, AV.ltL]) (Ret_of (by dsimp only; rw [Int.toNat_of_nonneg (show 0 ≤ a by omega)]))) | (rw [← hq1, unqF_ctl (by omega) (by omega)]; exact ResQ_40 rfl rfl rfl rfl hcl (by simp [AV.lt, AV.ltL]) (Ret_of rfl)) | (rw [← hq1, unqF_bad (by omega) (by omega) (by omega) (by omega) (by omega)]; exact ResQ_40 rfl rfl rfl rfl hcl (by simp [AV.lt, AV.ltL]) (Ret_of rfl)) | (rw [← hq1, unqF_last (by omega) (by omega)]; exact ResQ_40 rfl rfl rfl rfl hcl (by simp [AV.lt, AV.ltL]) (Ret_of rfl)) | (rw [← hq1, unqF_hb (by omega) (by omega) (by omega) (by omega)]; exact ResQ_40 rfl rfl rfl rfl hcl (by simp [AV.lt, AV.ltL]) (Ret_of rfl)) | (rw [← hq1, unqF_sur (by omega) (by omega) (by omega) (by omega) (by omega) (by omega)]; exact ResQ_40 rfl rfl rfl rfl hcl (by simp [AV.lt, AV.ltL]) (Ret_of rfl)) | (rw [← hq1, unqF_eb (by omega) (by omega) (by omega) (by assumption)]; exact ResQ_40 rfl rfl rfl rfl hcl (by simp [AV.lt, AV.ltL]) (Ret_of rfl)) | (rw [← hq1, unqF_end (by omega)]; exact ResQ_40 rfl rfl rfl rfl hcl (by simp [AV.lt, AV.ltL]) (Ret_of rfl))
                    · (try rw [h11]); (try simp only [decide_eq_true_eq, decide_eq_false_iff_not, Bool.not_eq_true', Bool.not_eq_false', Int.not_lt, Int.not_le, Bool.not_true, Bool.not_false, Int.toNat_natCast, tn1, tn2, tnn, bne_iff_ne, beq_iff_eq, beq_eq_false_iff_ne, ne_eq, Decidable.not_not] at h11)
                      refine AWp_skip ?_
                      refine AWp_seq ?_
                      -- region 25 ref.go:348
                      refine AWp_regL ?_
                      refine st rfl rfl rfl (op_moveO rfl rfl) ?_
                      refine st rfl rfl rfl (op_moveO rfl rfl) ?_
                      refine st rfl rfl rfl (op_add64 rfl rfl rfl (by omega) (by omega)) ?_
                      refine st rfl rfl rfl (op_callF rfl rfl rfl Tryd.func45 rfl rfl (low_c s (i + 6) _ hs (by omega))) ?_
                      refine st rfl rfl rfl (op_assignO rfl rfl) ?_
                      refine AOps_nil ?_
                      refine AWp_seq ?_
                      refine AWp_seq ?_
                      -- region 26 ref.go:349
                      refine AWp_regL ?_
                      refine st rfl rfl rfl (op_moveO rfl rfl) ?_
                      refine st rfl rfl rfl (op_geq rfl rfl rfl) ?_
                      refine st rfl rfl rfl (op_moveO rfl rfl) ?_
                      refine AOps_split 99 rfl (fun h12 => ?_) (fun h12 => ?_)
                      · rw [h12]; (try simp only [decide_eq_true_eq, decide_eq_false_iff_not, Bool.not_eq_true', Bool.not_eq_false', Int.not_lt, Int.not_le, Bool.not_true, Bool.not_false, Int.toNat_natCast, tn1, tn2, tnn, bne_iff_ne, beq_iff_eq, beq_eq_false_iff_ne, ne_eq, Decidable.not_not] at h12)
                        refine stG rfl rfl rfl rfl rfl rfl (op_moveO rfl rfl) ?_
                        refine stG rfl rfl rfl rfl rfl rfl (op_lss rfl rfl rfl) ?_
                        refine st rfl rfl rfl (op_pickTO rfl rfl rfl) ?_
                        refine st rfl rfl rfl (op_moveO rfl rfl) ?_
                        refine AOps_split 103 rfl (fun h13 => ?_) (fun h13 => ?_)
                        · rw [h13]; (try simp only [decide_eq_true_eq, decide_eq_false_iff_not, Bool.not_eq_true', Bool.not_eq_false', Int.not_lt, Int.not_le, Bool.not_true, Bool.not_false, Int.toNat_natCast, tn1, tn2, tnn, bne_iff_ne, beq_iff_eq, beq_eq_false_iff_ne, ne_eq, Decidable.not_not] at h13)
                          refine stG rfl rfl rfl rfl rfl rfl (op_moveO rfl rfl) ?_
                          refine stG rfl rfl rfl rfl rfl rfl (op_geq rfl rfl rfl) ?_
                          refine st rfl rfl rfl (op_pickTO rfl rfl rfl) ?_
                          refine AOps_nil ?_
                          refine AWp_cond rfl (fun h14 => ?_) (fun h14 => ?_)
                          · (try rw [h14]); (try simp only [decide_eq_true_eq, decide_eq_false_iff_not, Bool.not_eq_true', Bool.not_eq_false', Int.not_lt, Int.not_le, Bool.not_true, Bool.not_false, Int.toNat_natCast, tn1, tn2, tnn, bne_iff_ne, beq_iff_eq, beq_eq_false_iff_ne, ne_eq, Decidable.not_not] at h14)
                            refine AWp_seq ?_
                            -- region 27 ref.go:350
                            refine AWp_regL ?_
                            refine st rfl rfl rfl (op_moveO rfl rfl) ?_
                            refine st rfl rfl rfl (op_moveO rfl rfl) ?_
                            refine st rfl rfl rfl (op_sub64 rfl rfl rfl (by omega) (by omega)) ?_
                            refine st rfl rfl rfl (op_mul64 rfl rfl rfl (by omega) (by omega)) ?_
                            refine st rfl rfl rfl (op_add64 rfl rfl rfl (by omega) (by omega)) ?_
                            refine st rfl rfl rfl (op_moveO rfl rfl) ?_
                            refine st rfl rfl rfl (op_add64 rfl rfl rfl (by omega) (by omega)) ?_
                            refine st rfl rfl rfl (op_sub64 rfl rfl rfl (by omega) (by omega)) ?_
                            refine st rfl rfl rfl (op_callF rfl rfl rfl Tryd.func46 rfl rfl (char_c _ _ (by omega) (by omega))) ?_
                            refine st rfl rfl rfl (op_cat rfl rfl rfl (by omega)) ?_
                            refine st rfl rfl rfl (op_assignO rfl rfl) ?_
                            refine AOps_nil ?_
                            refine AWp_seq ?_
                            -- region 28 ref.go:351
                            refine AWp_regL ?_
                            refine st rfl rfl rfl (op_moveO rfl rfl) ?_
                            refine st rfl rfl rfl (op_add64 rfl rfl rfl (by omega) (by omega)) ?_
                            refine st rfl rfl rfl (op_assignO rfl rfl) ?_
                            refine AOps_nil ?_
                            refine AWp_exit ?_
                            first | exact ⟨(i + u8 s i, out ++ s.extract i (i + u8 s i)), σ.length, ⟨by rw [← hq1]; exact (unqF_plain (by omega) (by omega) (by omega) (by omega) (by omega)).symm, by simp only; omega, by simp only; omega, by simp only [ByteArray.size_append, ByteArray.size_extract]; omega⟩, by simp only; omega, Nat.le_refl _, ⟨rfl, rfl, rfl, rfl, rfl, trivial⟩, hcl, by simp [ltE, AV.lt], List.take_length⟩ | exact ⟨(i + 12, out ++ rchar (65536 + 1024 * ((rhex s (i + 2)).1 - 55296) + rlow s (i + 6) - 56320)), σ.length, ⟨by rw [← hq1]; exact (unqF_pair (by omega) (by omega) (by omega) (by omega) (by omega)).symm, by simp only; omega, by simp only; omega, by simp only [ByteArray.size_append, ByteArray.size_extract]; omega⟩, by simp only; omega, Nat.le_refl _, ⟨rfl, rfl, rfl, rfl, rfl, trivial⟩, hcl, by simp [ltE, AV.lt], List.take_length⟩ | exact ⟨(i + 6, out ++ rchar (rhex s (i + 2)).1), σ.length, ⟨by rw [← hq1]; exact (unqF_u (by omega) (by omega) (by omega) (by omega) (by omega) (by omega)).symm, by simp only; omega, by simp only; omega, by simp only [ByteArray.size_append, ByteArray.size_extract]; omega⟩, by simp only; omega, Nat.le_refl _, ⟨rfl, rfl, rfl, rfl, rfl, trivial⟩, hcl, by simp [ltE, AV.lt], List.take_length⟩ | exact ⟨(i + 2, out ++ ⟨#[UInt8.ofNat b]⟩), σ.length, ⟨by rw [← hq1]; exact (unqF_e (by omega) (by omega) (by omega) hb).symm, by simp only; omega, by simp only; omega, by simp only [ByteArray.size_append, ByteArray.size_extract]; omega⟩, by simp only; omega, Nat.le_refl _, ⟨rfl, rfl, rfl, by rw [escK_all, hb]; rfl, rfl, trivial⟩, hcl, by simp [ltE, AV.lt], List.take_length⟩
                          · (try rw [h14]); (try simp only [decide_eq_true_eq, decide_eq_false_iff_not, Bool.not_eq_true', Bool.not_eq_false', Int.not_lt, Int.not_le, Bool.not_true, Bool.not_false, Int.toNat_natCast, tn1, tn2, tnn, bne_iff_ne, beq_iff_eq, beq_eq_false_iff_ne, ne_eq, Decidable.not_not] at h14)
                            refine AWp_skip ?_
                            refine AWp_seq ?_
                            refine AWp_seq ?_
                            -- region 29 ref.go:354
                            refine AWp_regL ?_
                            refine st rfl rfl rfl (op_moveO rfl rfl) ?_
                            refine st rfl rfl rfl (op_geq rfl rfl rfl) ?_
                            refine st rfl rfl rfl (op_moveO rfl rfl) ?_
                            refine AOps_split 121 rfl (fun h15 => ?_) (fun h15 => ?_)
                            · rw [h15]; (try simp only [decide_eq_true_eq, decide_eq_false_iff_not, Bool.not_eq_true', Bool.not_eq_false', Int.not_lt, Int.not_le, Bool.not_true, Bool.not_false, Int.toNat_natCast, tn1, tn2, tnn, bne_iff_ne, beq_iff_eq, beq_eq_false_iff_ne, ne_eq, Decidable.not_not] at h15)
                              refine stG rfl rfl rfl rfl rfl rfl (op_moveO rfl rfl) ?_
                              refine stG rfl rfl rfl rfl rfl rfl (op_lss rfl rfl rfl) ?_
                              refine st rfl rfl rfl (op_pickTO rfl rfl rfl) ?_
                              refine AOps_nil ?_
                              refine AWp_cond rfl (fun h16 => ?_) (fun h16 => ?_)
                              · (try rw [h16]); (try simp only [decide_eq_true_eq, decide_eq_false_iff_not, Bool.not_eq_true', Bool.not_eq_false', Int.not_lt, Int.not_le, Bool.not_true, Bool.not_false, Int.toNat_natCast, tn1, tn2, tnn, bne_iff_ne, beq_iff_eq, beq_eq_false_iff_ne, ne_eq, Decidable.not_not] at h16)
                                refine AWp_seq ?_
                                -- region 30 ref.go:355
                                refine AWp_regL ?_
                                refine st rfl rfl rfl (op_moveO rfl rfl) ?_
                                refine st rfl rfl rfl (op_assignO rfl rfl) ?_
                                refine st rfl rfl rfl (op_assignO rfl rfl) ?_
                                refine st rfl rfl rfl (op_assignO rfl rfl) ?_
                                refine st rfl rfl rfl (op_assignO rfl rfl) ?_
                                refine AOps_nil ?_
                                refine AWp_ret ?_
                                (try simp only [blockQ, thenQ])
                                first | (exfalso; omega; done) | (rw [← hq1, unqF_q (by omega) (by omega)]; exact ResQ_40 rfl rfl rfl rfl hcl (by simp [AV.lt, AV.ltL]) (Ret_of (by dsimp only; rw [Int.toNat_of_nonneg (show 0 ≤ a by omega)]))) | (rw [← hq1, unqF_ctl (by omega) (by omega)]; exact ResQ_40 rfl rfl rfl rfl hcl (by simp [AV.lt, AV.ltL]) (Ret_of rfl)) | (rw [← hq1, unqF_bad (by omega) (by omega) (by omega) (by omega) (by omega)]; exact ResQ_40 rfl rfl rfl rfl hcl (by simp [AV.lt, AV.ltL]) (Ret_of rfl)) | (rw [← hq1, unqF_last (by omega) (by omega)]; exact ResQ_40 rfl rfl rfl rfl hcl (by simp [AV.lt, AV.ltL]) (Ret_of rfl)) | (rw [← hq1, unqF_hb (by omega) (by omega) (by omega) (by omega)]; exact ResQ_40 rfl rfl rfl rfl hcl (by simp [AV.lt, AV.ltL]) (Ret_of rfl)) | (rw [← hq1, unqF_sur (by omega) (by omega) (by omega) (by omega) (by omega) (by omega)]; exact ResQ_40 rfl rfl rfl rfl hcl (by simp [AV.lt, AV.ltL]) (Ret_of rfl)) | (rw [← hq1, unqF_eb (by omega) (by omega) (by omega) (by assumption)]; exact ResQ_40 rfl rfl rfl rfl hcl (by simp [AV.lt, AV.ltL]) (Ret_of rfl)) | (rw [← hq1, unqF_end (by omega)]; exact ResQ_40 rfl rfl rfl rfl hcl (by simp [AV.lt, AV.ltL]) (Ret_of rfl))
                              · (try rw [h16]); (try simp only [decide_eq_true_eq, decide_eq_false_iff_not, Bool.not_eq_true', Bool.not_eq_false', Int.not_lt, Int.not_le, Bool.not_true, Bool.not_false, Int.toNat_natCast, tn1, tn2, tnn, bne_iff_ne, beq_iff_eq, beq_eq_false_iff_ne, ne_eq, Decidable.not_not] at h16)
                                refine AWp_skip ?_
                                refine AWp_seq ?_
                                -- region 31 ref.go:357
                                refine AWp_regL ?_
                                refine st rfl rfl rfl (op_moveO rfl rfl) ?_
                                refine st rfl rfl rfl (op_moveO rfl rfl) ?_
                                refine st rfl rfl rfl (op_callF rfl rfl rfl Tryd.func46 rfl rfl (char_c _ _ (by omega) (by omega))) ?_
                                refine st rfl rfl rfl (op_cat rfl rfl rfl (by omega)) ?_
                                refine st rfl rfl rfl (op_assignO rfl rfl) ?_
                                refine AOps_nil ?_
                                refine AWp_seq ?_
                                -- region 32 ref.go:358
                                refine AWp_regL ?_
                                refine st rfl rfl rfl (op_moveO rfl rfl) ?_
                                refine st rfl rfl rfl (op_add64 rfl rfl rfl (by omega) (by omega)) ?_
                                refine st rfl rfl rfl (op_assignO rfl rfl) ?_
                                refine AOps_nil ?_
                                refine AWp_exit ?_
                                first | exact ⟨(i + u8 s i, out ++ s.extract i (i + u8 s i)), σ.length, ⟨by rw [← hq1]; exact (unqF_plain (by omega) (by omega) (by omega) (by omega) (by omega)).symm, by simp only; omega, by simp only; omega, by simp only [ByteArray.size_append, ByteArray.size_extract]; omega⟩, by simp only; omega, Nat.le_refl _, ⟨rfl, rfl, rfl, rfl, rfl, trivial⟩, hcl, by simp [ltE, AV.lt], List.take_length⟩ | exact ⟨(i + 12, out ++ rchar (65536 + 1024 * ((rhex s (i + 2)).1 - 55296) + rlow s (i + 6) - 56320)), σ.length, ⟨by rw [← hq1]; exact (unqF_pair (by omega) (by omega) (by omega) (by omega) (by omega)).symm, by simp only; omega, by simp only; omega, by simp only [ByteArray.size_append, ByteArray.size_extract]; omega⟩, by simp only; omega, Nat.le_refl _, ⟨rfl, rfl, rfl, rfl, rfl, trivial⟩, hcl, by simp [ltE, AV.lt], List.take_length⟩ | exact ⟨(i + 6, out ++ rchar (rhex s (i + 2)).1), σ.length, ⟨by rw [← hq1]; exact (unqF_u (by omega) (by omega) (by omega) (by omega) (by omega) (by omega)).symm, by simp only; omega, by simp only; omega, by simp only [ByteArray.size_append, ByteArray.size_extract]; omega⟩, by simp only; omega, Nat.le_refl _, ⟨rfl, rfl, rfl, rfl, rfl, trivial⟩, hcl, by simp [ltE, AV.lt], List.take_length⟩ | exact ⟨(i + 2, out ++ ⟨#[UInt8.ofNat b]⟩), σ.length, ⟨by rw [← hq1]; exact (unqF_e (by omega) (by omega) (by omega) hb).symm, by simp only; omega, by simp only; omega, by simp only [ByteArray.size_append, ByteArray.size_extract]; omega⟩, by simp only; omega, Nat.le_refl _, ⟨rfl, rfl, rfl, by rw [escK_all, hb]; rfl, rfl, trivial⟩, hcl, by simp [ltE, AV.lt], List.take_length⟩
                            · rw [h15]; (try simp only [decide_eq_true_eq, decide_eq_false_iff_not, Bool.not_eq_true', Bool.not_eq_false', Int.not_lt, Int.not_le, Bool.not_true, Bool.not_false, Int.toNat_natCast, tn1, tn2, tnn, bne_iff_ne, beq_iff_eq, beq_eq_false_iff_ne, ne_eq, Decidable.not_not] at h15)
                              refine stS rfl rfl rfl (.inl rfl) rfl rfl ?_
                              refine stS rfl rfl rfl (.inl rfl) rfl rfl ?_
                              refine st rfl rfl rfl (op_pickFO rfl rfl rfl) ?_
                              refine AOps_nil ?_
                              refine AWp_condF rfl ?_
                              refine AWp_skip ?_
                              refine AWp_seq ?_
                              -- region 31 ref.go:357
                              refine AWp_regL ?_
                              refine st rfl rfl rfl (op_moveO rfl rfl) ?_
                              refine st rfl rfl rfl (op_moveO rfl rfl) ?_
                              refine st rfl rfl rfl (op_callF rfl rfl rfl Tryd.func46 rfl rfl (char_c _ _ (by omega) (by omega))) ?_
                              refine st rfl rfl rfl (op_cat rfl rfl rfl (by omega)) ?_
                              refine st rfl rfl rfl (op_assignO rfl rfl) ?_
                              refine AOps_nil ?_
                              refine AWp_seq ?_
                              -- region 32 ref.go:358
                              refine AWp_regL ?_
                              refine st rfl rfl rfl (op_moveO rfl rfl) ?_
                              refine st rfl rfl rfl (op_add64 rfl rfl rfl (by omega) (by omega)) ?_
                              refine st rfl rfl rfl (op_assignO rfl rfl) ?_
                              refine AOps_nil ?_
                              refine AWp_exit ?_
                              first | exact ⟨(i + u8 s i, out ++ s.extract i (i + u8 s i)), σ.length, ⟨by rw [← hq1]; exact (unqF_plain (by omega) (by omega) (by omega) (by omega) (by omega)).symm, by simp only; omega, by simp only; omega, by simp only [ByteArray.size_append, ByteArray.size_extract]; omega⟩, by simp only; omega, Nat.le_refl _, ⟨rfl, rfl, rfl, rfl, rfl, trivial⟩, hcl, by simp [ltE, AV.lt], List.take_length⟩ | exact ⟨(i + 12, out ++ rchar (65536 + 1024 * ((rhex s (i + 2)).1 - 55296) + rlow s (i + 6) - 56320)), σ.length, ⟨by rw [← hq1]; exact (unqF_pair (by omega) (by omega) (by omega) (by omega) (by omega)).symm, by simp only; omega, by simp only; omega, by simp only [ByteArray.size_append, ByteArray.size_extract]; omega⟩, by simp only; omega, Nat.le_refl _, ⟨rfl, rfl, rfl, rfl, rfl, trivial⟩, hcl, by simp [ltE, AV.lt], List.take_length⟩ | exact ⟨(i + 6, out ++ rchar (rhex s (i + 2)).1), σ.length, ⟨by rw [← hq1]; exact (unqF_u (by omega) (by omega) (by omega) (by omega) (by omega) (by omega)).symm, by simp only; omega, by simp only; omega, by simp only [ByteArray.size_append, ByteArray.size_extract]; omega⟩, by simp only; omega, Nat.le_refl _, ⟨rfl, rfl, rfl, rfl, rfl, trivial⟩, hcl, by simp [ltE, AV.lt], List.take_length⟩ | exact ⟨(i + 2, out ++ ⟨#[UInt8.ofNat b]⟩), σ.length, ⟨by rw [← hq1]; exact (unqF_e (by omega) (by omega) (by omega) hb).symm, by simp only; omega, by simp only; omega, by simp only [ByteArray.size_append, ByteArray.size_extract]; omega⟩, by simp only; omega, Nat.le_refl _, ⟨rfl, rfl, rfl, by rw [escK_all, hb]; rfl, rfl, trivial⟩, hcl, by simp [ltE, AV.lt], List.take_length⟩
                        · rw [h13]; (try simp only [decide_eq_true_eq, decide_eq_false_iff_not, Bool.not_eq_true', Bool.not_eq_false', Int.not_lt, Int.not_le, Bool.not_true, Bool.not_false, Int.toNat_natCast, tn1, tn2, tnn, bne_iff_ne, beq_iff_eq, beq_eq_false_iff_ne, ne_eq, Decidable.not_not] at h13)
                          refine stS rfl rfl rfl (.inl rfl) rfl rfl ?_
                          refine stS rfl rfl rfl (.inl rfl) rfl rfl ?_
                          refine st rfl rfl rfl (op_pickFO rfl rfl rfl) ?_
                          refine AOps_nil ?_
                          refine AWp_condF rfl ?_
                          refine AWp_skip ?_
                          refine AWp_seq ?_
                          refine AWp_seq ?_
                          -- region 29 ref.go:354
                          refine AWp_regL ?_
                          refine st rfl rfl rfl (op_moveO rfl rfl) ?_
                          refine st rfl rfl rfl (op_geq rfl rfl rfl) ?_
                          refine st rfl rfl rfl (op_moveO rfl rfl) ?_
                          refine AOps_split 121 rfl (fun h17 => ?_) (fun h17 => ?_)
                          · rw [h17]; (try simp only [decide_eq_true_eq, decide_eq_false_iff_not, Bool.not_eq_true', Bool.not_eq_false', Int.not_lt, Int.not_le, Bool.not_true, Bool.not_false, Int.toNat_natCast, tn1, tn2, tnn, bne_iff_ne, beq_iff_eq, beq_eq_false_iff_ne, ne_eq, Decidable.not_not] at h17)
                            refine stG rfl rfl rfl rfl rfl rfl (op_moveO rfl rfl) ?_
                            refine stG rfl rfl rfl rfl rfl rfl (op_lss rfl rfl rfl) ?_
                            refine st rfl rfl rfl (op_pickTO rfl rfl rfl) ?_
                            refine AOps_nil ?_
                            refine AWp_cond rfl (fun h18 => ?_) (fun h18 => ?_)
                            · (try rw [h18]); (try simp only [decide_eq_true_eq, decide_eq_false_iff_not, Bool.not_eq_true', Bool.not_eq_false', Int.not_lt, Int.not_le, Bool.not_true, Bool.not_false, Int.toNat_natCast, tn1, tn2, tnn, bne_iff_ne, beq_iff_eq, beq_eq_false_iff_ne, ne_eq, Decidable.not_not] at h18)
                              refine AWp_seq ?_
                              -- region 30 ref.go:355
                              refine AWp_regL ?_
                              refine st rfl rfl rfl (op_moveO rfl rfl) ?_
                              refine st rfl rfl rfl (op_assignO rfl rfl) ?_
                              refine st rfl rfl rfl (op_assignO rfl rfl) ?_
                              refine st rfl rfl rfl (op_assignO rfl rfl) ?_
                              refine st rfl rfl rfl (op_assignO rfl rfl) ?_
                              refine AOps_nil ?_
                              refine AWp_ret ?_
                              (try simp only [blockQ, thenQ])
                              first | (exfalso; omega; done) | (rw [← hq1, unqF_q (by omega) (by omega)]; exact ResQ_40 rfl rfl rfl rfl hcl (by simp [AV.lt, AV.ltL]) (Ret_of (by dsimp only; rw [Int.toNat_of_nonneg (show 0 ≤ a by omega)]))) | (rw [← hq1, unqF_ctl (by omega) (by omega)]; exact ResQ_40 rfl rfl rfl rfl hcl (by simp [AV.lt, AV.ltL]) (Ret_of rfl)) | (rw [← hq1, unqF_bad (by omega) (by omega) (by omega) (by omega) (by omega)]; exact ResQ_40 rfl rfl rfl rfl hcl (by simp [AV.lt, AV.ltL]) (Ret_of rfl)) | (rw [← hq1, unqF_last (by omega) (by omega)]; exact ResQ_40 rfl rfl rfl rfl hcl (by simp [AV.lt, AV.ltL]) (Ret_of rfl)) | (rw [← hq1, unqF_hb (by omega) (by omega) (by omega) (by omega)]; exact ResQ_40 rfl rfl rfl rfl hcl (by simp [AV.lt, AV.ltL]) (Ret_of rfl)) | (rw [← hq1, unqF_sur (by omega) (by omega) (by omega) (by omega) (by omega) (by omega)]; exact ResQ_40 rfl rfl rfl rfl hcl (by simp [AV.lt, AV.ltL]) (Ret_of rfl)) | (rw [← hq1, unqF_eb (by omega) (by omega) (by omega) (by assumption)]; exact ResQ_40 rfl rfl rfl rfl hcl (by simp [AV.lt, AV.ltL]) (Ret_of rfl)) | (rw [← hq1, unqF_end (by omega)]; exact ResQ_40 rfl rfl rfl rfl hcl (by simp [AV.lt, AV.ltL]) (Ret_of rfl))
                            · (try rw [h18]); (try simp only [decide_eq_true_eq, decide_eq_false_iff_not, Bool.not_eq_true', Bool.not_eq_false', Int.not_lt, Int.not_le, Bool.not_true, Bool.not_false, Int.toNat_natCast, tn1, tn2, tnn, bne_iff_ne, beq_iff_eq, beq_eq_false_iff_ne, ne_eq, Decidable.not_not] at h18)
                              refine AWp_skip ?_
                              refine AWp_seq ?_
                              -- region 31 ref.go:357
                              refine AWp_regL ?_
                              refine st rfl rfl rfl (op_moveO rfl rfl) ?_
                              refine st rfl rfl rfl (op_moveO rfl rfl) ?_
                              refine st rfl rfl rfl (op_callF rfl rfl rfl Tryd.func46 rfl rfl (char_c _ _ (by omega) (by omega))) ?_
                              refine st rfl rfl rfl (op_cat rfl rfl rfl (by omega)) ?_
                              refine st rfl rfl rfl (op_assignO rfl rfl) ?_
                              refine AOps_nil ?_
                              refine AWp_seq ?_
                              -- region 32 ref.go:358
                              refine AWp_regL ?_
                              refine st rfl rfl rfl (op_moveO rfl rfl) ?_
                              refine st rfl rfl rfl (op_add64 rfl rfl rfl (by omega) (by omega)) ?_
                              refine st rfl rfl rfl (op_assignO rfl rfl) ?_
                              refine AOps_nil ?_
                              refine AWp_exit ?_
                              first | exact ⟨(i + u8 s i, out ++ s.extract i (i + u8 s i)), σ.length, ⟨by rw [← hq1]; exact (unqF_plain (by omega) (by omega) (by omega) (by omega) (by omega)).symm, by simp only; omega, by simp only; omega, by simp only [ByteArray.size_append, ByteArray.size_extract]; omega⟩, by simp only; omega, Nat.le_refl _, ⟨rfl, rfl, rfl, rfl, rfl, trivial⟩, hcl, by simp [ltE, AV.lt], List.take_length⟩ | exact ⟨(i + 12, out ++ rchar (65536 + 1024 * ((rhex s (i + 2)).1 - 55296) + rlow s (i + 6) - 56320)), σ.length, ⟨by rw [← hq1]; exact (unqF_pair (by omega) (by omega) (by omega) (by omega) (by omega)).symm, by simp only; omega, by simp only; omega, by simp only [ByteArray.size_append, ByteArray.size_extract]; omega⟩, by simp only; omega, Nat.le_refl _, ⟨rfl, rfl, rfl, rfl, rfl, trivial⟩, hcl, by simp [ltE, AV.lt], List.take_length⟩ | exact ⟨(i + 6, out ++ rchar (rhex s (i + 2)).1), σ.length, ⟨by rw [← hq1]; exact (unqF_u (by omega) (by omega) (by omega) (by omega) (by omega) (by omega)).symm, by simp only; omega, by simp only; omega, by simp only [ByteArray.size_append, ByteArray.size_extract]; omega⟩, by simp only; omega, Nat.le_refl _, ⟨rfl, rfl, rfl, rfl, rfl, trivial⟩, hcl, by simp [ltE, AV.lt], List.take_length⟩ | exact ⟨(i + 2, out ++ ⟨#[UInt8.ofNat b]⟩), σ.length, ⟨by rw [← hq1]; exact (unqF_e (by omega) (by omega) (by omega) hb).symm, by simp only; omega, by simp only; omega, by simp only [ByteArray.size_append, ByteArray.size_extract]; omega⟩, by simp only; omega, Nat.le_refl _, ⟨rfl, rfl, rfl, by rw [escK_all, hb]; rfl, rfl, trivial⟩, hcl, by simp [ltE, AV.lt], List.take_length⟩
                          · rw [h17]; (try simp only [decide_eq_true_eq, decide_eq_false_iff_not, Bool.not_eq_true', Bool.not_eq_false', Int.not_lt, Int.not_le, Bool.not_true, Bool.not_false, Int.toNat_natCast, tn1, tn2, tnn, bne_iff_ne, beq_iff_eq, beq_eq_false_iff_ne, ne_eq, Decidable.not_not] at h17)
                            refine stS rfl rfl rfl (.inl rfl) rfl rfl ?_
                            refine stS rfl rfl rfl (.inl rfl) rfl rfl ?_
                            refine st rfl rfl rfl (op_pickFO rfl rfl rfl) ?_
                            refine AOps_nil ?_
                            refine AWp_condF rfl ?_
                            refine AWp_skip ?_
                            refine AWp_seq ?_
                            -- region 31 ref.go:357
                            refine AWp_regL ?_
                            refine st rfl rfl rfl (op_moveO rfl rfl) ?_
                            refine st rfl rfl rfl (op_moveO rfl rfl) ?_
                            refine st rfl rfl rfl (op_callF rfl rfl rfl Tryd.func46 rfl rfl (char_c _ _ (by omega) (by omega))) ?_
                            refine st rfl rfl rfl (op_cat rfl rfl rfl (by omega)) ?_
                            refine st rfl rfl rfl (op_assignO rfl rfl) ?_
                            refine AOps_nil ?_
                            refine AWp_seq ?_
                            -- region 32 ref.go:358
                            refine AWp_regL ?_
                            refine st rfl rfl rfl (op_moveO rfl rfl) ?_
                            refine st rfl rfl rfl (op_add64 rfl rfl rfl (by omega) (by omega)) ?_
                            refine st rfl rfl rfl (op_assignO rfl rfl) ?_
                            refine AOps_nil ?_
                            refine AWp_exit ?_
                            first | exact ⟨(i + u8 s i, out ++ s.extract i (i + u8 s i)), σ.length, ⟨by rw [← hq1]; exact (unqF_plain (by omega) (by omega) (by omega) (by omega) (by omega)).symm, by simp only; omega, by simp only; omega, by simp only [ByteArray.size_append, ByteArray.size_extract]; omega⟩, by simp only; omega, Nat.le_refl _, ⟨rfl, rfl, rfl, rfl, rfl, trivial⟩, hcl, by simp [ltE, AV.lt], List.take_length⟩ | exact ⟨(i + 12, out ++ rchar (65536 + 1024 * ((rhex s (i + 2)).1 - 55296) + rlow s (i + 6) - 56320)), σ.length, ⟨by rw [← hq1]; exact (unqF_pair (by omega) (by omega) (by omega) (by omega) (by omega)).symm, by simp only; omega, by simp only; omega, by simp only [ByteArray.size_append, ByteArray.size_extract]; omega⟩, by simp only; omega, Nat.le_refl _, ⟨rfl, rfl, rfl, rfl, rfl, trivial⟩, hcl, by simp [ltE, AV.lt], List.take_length⟩ | exact ⟨(i + 6, out ++ rchar (rhex s (i + 2)).1), σ.length, ⟨by rw [← hq1]; exact (unqF_u (by omega) (by omega) (by omega) (by omega) (by omega) (by omega)).symm, by simp only; omega, by simp only; omega, by simp only [ByteArray.size_append, ByteArray.size_extract]; omega⟩, by simp only; omega, Nat.le_refl _, ⟨rfl, rfl, rfl, rfl, rfl, trivial⟩, hcl, by simp [ltE, AV.lt], List.take_length⟩ | exact ⟨(i + 2, out ++ ⟨#[UInt8.ofNat b]⟩), σ.length, ⟨by rw [← hq1]; exact (unqF_e (by omega) (by omega) (by omega) hb).symm, by simp only; omega, by simp only; omega, by simp only [ByteArray.size_append, ByteArray.size_extract]; omega⟩, by simp only; omega, Nat.le_refl _, ⟨rfl, rfl, rfl, by rw [escK_all, hb]; rfl, rfl, trivial⟩, hcl, by simp [ltE, AV.lt], List.take_length⟩
                      · rw [h12]; (try simp only [decide_eq_true_eq, decide_eq_false_iff_not, Bool.not_eq_true', Bool.not_eq_false', Int.not_lt, Int.not_le, Bool.not_true, Bool.not_false, Int.toNat_natCast, tn1, tn2, tnn, bne_iff_ne, beq_iff_eq, beq_eq_false_iff_ne, ne_eq, Decidable.not_not] at h12)
                        refine stS rfl rfl rfl (.inl rfl) rfl rfl ?_
                        refine stS rfl rfl rfl (.inl rfl) rfl rfl ?_
                        refine st rfl rfl rfl (op_pickFO rfl rfl rfl) ?_
                        refine st rfl rfl rfl (op_moveO rfl rfl) ?_
                        refine stS rfl rfl rfl (.inl rfl) rfl rfl ?_
                        refine stS rfl rfl rfl (.inl rfl) rfl rfl ?_
                        refine st rfl rfl rfl (op_pickFO rfl rfl rfl) ?_
                        refine AOps_nil ?_
                        refine AWp_condF rfl ?_
                        refine AWp_skip ?_
                        refine AWp_seq ?_
                        refine AWp_seq ?_
                        -- region 29 ref.go:354
                        refine AWp_regL ?_
                        refine st rfl rfl rfl (op_moveO rfl rfl) ?_
                        refine st rfl rfl rfl (op_geq rfl rfl rfl) ?_
                        refine st rfl rfl rfl (op_moveO rfl rfl) ?_
                        refine AOps_split 121 rfl (fun h19 => ?_) (fun h19 => ?_)
                        · rw [h19]; (try simp only [decide_eq_true_eq, decide_eq_false_iff_not, Bool.not_eq_true', Bool.not_eq_false', Int.not_lt, Int.not_le, Bool.not_true, Bool.not_false, Int.toNat_natCast, tn1, tn2, tnn, bne_iff_ne, beq_iff_eq, beq_eq_false_iff_ne, ne_eq, Decidable.not_not] at h19)
                          refine stG rfl rfl rfl rfl rfl rfl (op_moveO rfl rfl) ?_
                          refine stG rfl rfl rfl rfl rfl rfl (op_lss rfl rfl rfl) ?_
                          refine st rfl rfl rfl (op_pickTO rfl rfl rfl) ?_
                          refine AOps_nil ?_
                          refine AWp_cond rfl (fun h20 => ?_) (fun h20 => ?_)
                          · (try rw [h20]); (try simp only [decide_eq_true_eq, decide_eq_false_iff_not, Bool.not_eq_true', Bool.not_eq_false', Int.not_lt, Int.not_le, Bool.not_true, Bool.not_false, Int.toNat_natCast, tn1, tn2, tnn, bne_iff_ne, beq_iff_eq, beq_eq_false_iff_ne, ne_eq, Decidable.not_not] at h20)
                            refine AWp_seq ?_
                            -- region 30 ref.go:355
                            refine AWp_regL ?_
                            refine st rfl rfl rfl (op_moveO rfl rfl) ?_
                            refine st rfl rfl rfl (op_assignO rfl rfl) ?_
                            refine st rfl rfl rfl (op_assignO rfl rfl) ?_
                            refine st rfl rfl rfl (op_assignO rfl rfl) ?_
                            refine st rfl rfl rfl (op_assignO rfl rfl) ?_
                            refine AOps_nil ?_
                            refine AWp_ret ?_
                            (try simp only [blockQ, thenQ])
                            first | (exfalso; omega; done) | (rw [← hq1, unqF_q (by omega) (by omega)]; exact ResQ_40 rfl rfl rfl rfl hcl (by simp [AV.lt, AV.ltL]) (Ret_of (by dsimp only; rw [Int.toNat_of_nonneg (show 0 ≤ a by omega)]))) | (rw [← hq1, unqF_ctl (by omega) (by omega)]; exact ResQ_40 rfl rfl rfl rfl hcl (by simp [AV.lt, AV.ltL]) (Ret_of rfl)) | (rw [← hq1, unqF_bad (by omega) (by omega) (by omega) (by omega) (by omega)]; exact ResQ_40 rfl rfl rfl rfl hcl (by simp [AV.lt, AV.ltL]) (Ret_of rfl)) | (rw [← hq1, unqF_last (by omega) (by omega)]; exact ResQ_40 rfl rfl rfl rfl hcl (by simp [AV.lt, AV.ltL]) (Ret_of rfl)) | (rw [← hq1, unqF_hb (by omega) (by omega) (by omega) (by omega)]; exact ResQ_40 rfl rfl rfl rfl hcl (by simp [AV.lt, AV.ltL]) (Ret_of rfl)) | (rw [← hq1, unqF_sur (by omega) (by omega) (by omega) (by omega) (by omega) (by omega)]; exact ResQ_40 rfl rfl rfl rfl hcl (by simp [AV.lt, AV.ltL]) (Ret_of rfl)) | (rw [← hq1, unqF_eb (by omega) (by omega) (by omega) (by assumption)]; exact ResQ_40 rfl rfl rfl rfl hcl (by simp [AV.lt, AV.ltL]) (Ret_of rfl)) | (rw [← hq1, unqF_end (by omega)]; exact ResQ_40 rfl rfl rfl rfl hcl (by simp [AV.lt, AV.ltL]) (Ret_of rfl))
                          · (try rw [h20]); (try simp only [decide_eq_true_eq, decide_eq_false_iff_not, Bool.not_eq_true', Bool.not_eq_false', Int.not_lt, Int.not_le, Bool.not_true, Bool.not_false, Int.toNat_natCast, tn1, tn2, tnn, bne_iff_ne, beq_iff_eq, beq_eq_false_iff_ne, ne_eq, Decidable.not_not] at h20)
                            refine AWp_skip ?_
                            refine AWp_seq ?_
                            -- region 31 ref.go:357
                            refine AWp_regL ?_
                            refine st rfl rfl rfl (op_moveO rfl rfl) ?_
                            refine st rfl rfl rfl (op_moveO rfl rfl) ?_
                            refine st rfl rfl rfl (op_callF rfl rfl rfl Tryd.func46 rfl rfl (char_c _ _ (by omega) (by omega))) ?_
                            refine st rfl rfl rfl (op_cat rfl rfl rfl (by omega)) ?_
                            refine st rfl rfl rfl (op_assignO rfl rfl) ?_
                            refine AOps_nil ?_
                            refine AWp_seq ?_
                            -- region 32 ref.go:358
                            refine AWp_regL ?_
                            refine st rfl rfl rfl (op_moveO rfl rfl) ?_
                            refine st rfl rfl rfl (op_add64 rfl rfl rfl (by omega) (by omega)) ?_
                            refine st rfl rfl rfl (op_assignO rfl rfl) ?_
                            refine AOps_nil ?_
                            refine AWp_exit ?_
                            first | exact ⟨(i + u8 s i, out ++ s.extract i (i + u8 s i)), σ.length, ⟨by rw [← hq1]; exact (unqF_plain (by omega) (by omega) (by omega) (by omega) (by omega)).symm, by simp only; omega, by simp only; omega, by simp only [ByteArray.size_append, ByteArray.size_extract]; omega⟩, by simp only; omega, Nat.le_refl _, ⟨rfl, rfl, rfl, rfl, rfl, trivial⟩, hcl, by simp [ltE, AV.lt], List.take_length⟩ | exact ⟨(i + 12, out ++ rchar (65536 + 1024 * ((rhex s (i + 2)).1 - 55296) + rlow s (i + 6) - 56320)), σ.length, ⟨by rw [← hq1]; exact (unqF_pair (by omega) (by omega) (by omega) (by omega) (by omega)).symm, by simp only; omega, by simp only; omega, by simp only [ByteArray.size_append, ByteArray.size_extract]; omega⟩, by simp only; omega, Nat.le_refl _, ⟨rfl, rfl, rfl, rfl, rfl, trivial⟩, hcl, by simp [ltE, AV.lt], List.take_length⟩ | exact ⟨(i + 6, out ++ rchar (rhex s (i + 2)).1), σ.length, ⟨by rw [← hq1]; exact (unqF_u (by omega) (by omega) (by omega) (by omega) (by omega) (by omega)).symm, by simp only; omega, by simp only; omega, by simp only [ByteArray.size_append, ByteArray.size_extract]; omega⟩, by simp only; omega, Nat.le_refl _, ⟨rfl, rfl, rfl, rfl, rfl, trivial⟩, hcl, by simp [ltE, AV.lt], List.take_length⟩ | exact ⟨(i + 2, out ++ ⟨#[UInt8.ofNat b]⟩), σ.length, ⟨by rw [← hq1]; exact (unqF_e (by omega) (by omega) (by omega) hb).symm, by simp only; omega, by simp only; omega, by simp only [ByteArray.size_append, ByteArray.size_extract]; omega⟩, by simp only; omega, Nat.le_refl _, ⟨rfl, rfl, rfl, by rw [escK_all, hb]; rfl, rfl, trivial⟩, hcl, by simp [ltE, AV.lt], List.take_length⟩
                        · rw [h19]; (try simp only [decide_eq_true_eq, decide_eq_false_iff_not, Bool.not_eq_true', Bool.not_eq_false', Int.not_lt, Int.not_le, Bool.not_true, Bool.not_false, Int.toNat_natCast, tn1, tn2, tnn, bne_iff_ne, beq_iff_eq, beq_eq_false_iff_ne, ne_eq, Decidable.not_not] at h19)
                          refine stS rfl rfl rfl (.inl rfl) rfl rfl ?_
                          refine stS rfl rfl rfl (.inl rfl) rfl rfl ?_
                          refine st rfl rfl rfl (op_pickFO rfl rfl rfl) ?_
                          refine AOps_nil ?_
                          refine AWp_condF rfl ?_
                          refine AWp_skip ?_
                          refine AWp_seq ?_
                          -- region 31 ref.go:357
                          refine AWp_regL ?_
                          refine st rfl rfl rfl (op_moveO rfl rfl) ?_
                          refine st rfl rfl rfl (op_moveO rfl rfl) ?_
                          refine st rfl rfl rfl (op_callF rfl rfl rfl Tryd.func46 rfl rfl (char_c _ _ (by omega) (by omega))) ?_
                          refine st rfl rfl rfl (op_cat rfl rfl rfl (by omega)) ?_
                          refine st rfl rfl rfl (op_assignO rfl rfl) ?_
                          refine AOps_nil ?_
                          refine AWp_seq ?_
                          -- region 32 ref.go:358
                          refine AWp_regL ?_
                          refine st rfl rfl rfl (op_moveO rfl rfl) ?_
                          refine st rfl rfl rfl (op_add64 rfl rfl rfl (by omega) (by omega)) ?_
                          refine st rfl rfl rfl (op_assignO rfl rfl) ?_
                          refine AOps_nil ?_
                          refine AWp_exit ?_
                          first | exact ⟨(i + u8 s i, out ++ s.extract i (i + u8 s i)), σ.length, ⟨by rw [← hq1]; exact (unqF_plain (by omega) (by omega) (by omega) (by omega) (by omega)).symm, by simp only; omega, by simp only; omega, by simp only [ByteArray.size_append, ByteArray.size_extract]; omega⟩, by simp only; omega, Nat.le_refl _, ⟨rfl, rfl, rfl, rfl, rfl, trivial⟩, hcl, by simp [ltE, AV.lt], List.take_length⟩ | exact ⟨(i + 12, out ++ rchar (65536 + 1024 * ((rhex s (i + 2)).1 - 55296) + rlow s (i + 6) - 56320)), σ.length, ⟨by rw [← hq1]; exact (unqF_pair (by omega) (by omega) (by omega) (by omega) (by omega)).symm, by simp only; omega, by simp only; omega, by simp only [ByteArray.size_append, ByteArray.size_extract]; omega⟩, by simp only; omega, Nat.le_refl _, ⟨rfl, rfl, rfl, rfl, rfl, trivial⟩, hcl, by simp [ltE, AV.lt], List.take_length⟩ | exact ⟨(i + 6, out ++ rchar (rhex s (i + 2)).1), σ.length, ⟨by rw [← hq1]; exact (unqF_u (by omega) (by omega) (by omega) (by omega) (by omega) (by omega)).symm, by simp only; omega, by simp only; omega, by simp only [ByteArray.size_append, ByteArray.size_extract]; omega⟩, by simp only; omega, Nat.le_refl _, ⟨rfl, rfl, rfl, rfl, rfl, trivial⟩, hcl, by simp [ltE, AV.lt], List.take_length⟩ | exact ⟨(i + 2, out ++ ⟨#[UInt8.ofNat b]⟩), σ.length, ⟨by rw [← hq1]; exact (unqF_e (by omega) (by omega) (by omega) hb).symm, by simp only; omega, by simp only; omega, by simp only [ByteArray.size_append, ByteArray.size_extract]; omega⟩, by simp only; omega, Nat.le_refl _, ⟨rfl, rfl, rfl, by rw [escK_all, hb]; rfl, rfl, trivial⟩, hcl, by simp [ltE, AV.lt], List.take_length⟩
                  · (try rw [h10]); (try simp only [decide_eq_true_eq, decide_eq_false_iff_not, Bool.not_eq_true', Bool.not_eq_false', Int.not_lt, Int.not_le, Bool.not_true, Bool.not_false, Int.toNat_natCast, tn1, tn2, tnn, bne_iff_ne, beq_iff_eq, beq_eq_false_iff_ne, ne_eq, Decidable.not_not] at h10)
                    refine AWp_skip ?_
                    refine AWp_seq ?_
                    -- region 33 ref.go:361
                    refine AWp_regL ?_
                    refine st rfl rfl rfl (op_assignO rfl rfl) ?_
                    refine AOps_nil ?_
                    refine AWp_seq ?_
                    -- region 34 ref.go:362
                    refine AWp_regL ?_
                    refine st rfl rfl rfl (op_buildSlice [[_], [_], [_], [_], [_], [_], [_], [_]] rfl Tryd.underlying64 Tryd.sizeOf5 Tryd.zeroValue5 rfl (by decide) (by decide) rfl rfl rfl rfl rfl) ?_
                    refine st rfl rfl rfl (op_assignO rfl rfl) ?_
                    refine AOps_nil ?_
                    refine AWp_seq ?_
                    -- region 35 ref.go:363
                    refine AWp_regL ?_
                    refine st rfl rfl rfl (op_assignO rfl rfl) ?_
                    refine AOps_nil ?_
                    refine AWp_seq ?_
                    refine AWp_seq ?_
                    -- region 36 ref.go:364
                    refine AWp_regL ?_
                    refine st rfl rfl rfl (op_assignO rfl rfl) ?_
                    refine AOps_nil ?_
                    refine AWp_block ?_
                    -- loop 1 LIVE 0:param 4:assign 5:assign 6:assign 7:assign 8:assign 9:assign 15:assign 16:assign 17:assign 18:assign
                    refine AWp_loop (ι := Nat) (fun k => k ≤ 8) (fun k => ⟨[], [(0, .str s), (1, .int .i64 a), (8, .str (escO out (escK (bat s (i + 1)).toNat k))), (9, .int .i64 (i : Int)), (15, .str fromS), (16, .sl true 1 [[AV.int .u8 34], [AV.int .u8 92], [AV.int .u8 47], [AV.int .u8 8], [AV.int .u8 12], [AV.int .u8 10], [AV.int .u8 13], [AV.int .u8 9]]), (17, .bool (escK (bat s (i + 1)).toNat k).isSome), (18, .int .i64 (k : Int))]⟩) (fun k => σ) (fun k => 8 - k) (0) (Nat.zero_le _) ?_ rfl (fun k hk => ?_)
                    · exact ⟨rfl, rfl, rfl, rfl, rfl, rfl, rfl, rfl, rfl, trivial⟩
                    have hfs : fromS.size = 8 := rfl
                    have hos := escO_size out (escK (bat s (i + 1)).toNat k)
                    have htb := @toB_lt k
                    refine AWp_seq ?_
                    refine AWp_seq ?_
                    -- region 37 ref.go:364
                    refine AWp_regL ?_
                    refine st rfl rfl rfl (op_moveO rfl rfl) ?_
                    refine st rfl rfl rfl (op_moveO rfl rfl) ?_
                    refine st rfl rfl rfl (op_lenStr rfl rfl Tryd.underlying9 rfl) ?_
                    refine st rfl rfl rfl (op_lss rfl rfl rfl) ?_
                    refine AOps_nil ?_
                    refine AWp_cond rfl (fun h21 => ?_) (fun h21 => ?_)
                    · (try rw [h21]); (try simp only [decide_eq_true_eq, decide_eq_false_iff_not, Bool.not_eq_true', Bool.not_eq_false', Int.not_lt, Int.not_le, Bool.not_true, Bool.not_false, Int.toNat_natCast, tn1, tn2, tnn, bne_iff_ne, beq_iff_eq, beq_eq_false_iff_ne, ne_eq, Decidable.not_not] at h21)
                      refine AWp_skip ?_
                      refine AWp_seq ?_
                      refine AWp_block ?_
                      refine AWp_seq ?_
                      -- region 39 ref.go:365 DRAWN
                      refine AWp_drawL #[0, 0, 3, 0, 0, 16, 56, 127] Tryd.mixed (by decide +kernel) (by decide +kernel) ?_
                      refine rA rfl rfl rfl rfl (fun _ => op_moveO rfl rfl) ?_
                      refine rA rfl rfl rfl rfl (fun _ => op_moveO rfl rfl) ?_
                      refine rA rfl rfl rfl rfl (fun _ => op_index_strB rfl Tryd.underlying9 rfl rfl (by omega) (by omega)) ?_
                      refine rA rfl rfl rfl rfl (fun _ => op_moveO rfl rfl) ?_
                      refine rA rfl rfl rfl rfl (fun _ => op_moveO rfl rfl) ?_
                      refine rA rfl rfl rfl rfl (fun _ => op_add64 rfl rfl rfl (by omega) (by omega)) ?_
                      refine rA rfl rfl rfl rfl (fun _ => op_index_strB rfl Tryd.underlying9 rfl rfl (by omega) (by omega)) ?_
                      simp only [tn1, Int.toNat_natCast]
                      refine rA rfl rfl rfl rfl (fun _ => op_eql rfl rfl rfl) ?_
                      refine RP.nil rfl ?_
                      refine AWp_cond rfl (fun h22 => ?_) (fun h22 => ?_)
                      · (try rw [h22]); (try simp only [decide_eq_true_eq, decide_eq_false_iff_not, Bool.not_eq_true', Bool.not_eq_false', Int.not_lt, Int.not_le, Bool.not_true, Bool.not_false, Int.toNat_natCast, tn1, tn2, tnn, bne_iff_ne, beq_iff_eq, beq_eq_false_iff_ne, ne_eq, Decidable.not_not] at h22)
                        refine AWp_seq ?_
                        -- region 40 ref.go:366
                        refine AWp_regL ?_
                        refine st rfl rfl rfl (op_moveO rfl rfl) ?_
                        refine st rfl rfl rfl (op_moveO rfl rfl) ?_
                        refine st rfl rfl rfl (op_moveO rfl rfl) ?_
                        refine st rfl rfl rfl (op_indexAddr rfl Tryd.underlying64 Tryd.sizeOf5 rfl rfl (by omega) (to_row (by omega))) ?_
                        simp only [Int.toNat_natCast]
                        refine st rfl rfl rfl (op_load1 rfl Tryd.isAgg5 (by first | exact ldv_own rfl rfl | exact ldv_pp rfl | exact ldv_old (by assumption) rfl | exact ldv_ptr (by assumption) rfl)) ?_
                        refine st rfl rfl rfl (op_buildSlice [[_]] rfl Tryd.underlying64 Tryd.sizeOf5 Tryd.zeroValue5 rfl (by decide) (by decide) rfl rfl rfl rfl rfl) ?_
                        refine st rfl rfl rfl (op_bytesStr (b := _) (m := 1) rfl Tryd.underlying64 Tryd.underlying5 Tryd.underlying9 (bs1 ⟨by omega, by omega⟩) rfl rfl) ?_
                        have h1s : (ByteArray.mk #[u8b (toB k : Int)]).size = 1 := rfl
                        refine st rfl rfl rfl (op_cat rfl rfl rfl (by omega)) ?_
                        refine st rfl rfl rfl (op_assignO rfl rfl) ?_
                        refine AOps_nil ?_
                        -- region 41 ref.go:367
                        refine AWp_regL ?_
                        refine st rfl rfl rfl (op_assignO rfl rfl) ?_
                        refine AOps_nil ?_
                        -- region 38 ref.go:364
                        refine AWp_regL ?_
                        refine st rfl rfl rfl (op_moveO rfl rfl) ?_
                        refine st rfl rfl rfl (op_add64 rfl rfl rfl (by omega) (by omega)) ?_
                        refine st rfl rfl rfl (op_assignO rfl rfl) ?_
                        refine AOps_nil ?_
                        have hk8 : k < 8 := by omega
                        have hhit := escK_hit (c := (bat s (i + 1)).toNat) hk8 (by omega)
                        have hho := escO_hit (out := out) (c := (bat s (i + 1)).toNat) hk8 (by omega)
                        refine ⟨k + 1, σ.length, by omega, by omega, Nat.le_refl _, ⟨rfl, rfl, rfl, ?_, rfl, rfl, rfl, ?_, rfl, trivial⟩, hcl, ?_, List.take_length⟩
                        · rw [← hho]; rfl
                        · rw [hhit.2]; rfl
                        · simp [ltE, AV.lt, AV.ltL, AV.ltLL]
                      · (try rw [h22]); (try simp only [decide_eq_true_eq, decide_eq_false_iff_not, Bool.not_eq_true', Bool.not_eq_false', Int.not_lt, Int.not_le, Bool.not_true, Bool.not_false, Int.toNat_natCast, tn1, tn2, tnn, bne_iff_ne, beq_iff_eq, beq_eq_false_iff_ne, ne_eq, Decidable.not_not] at h22)
                        refine AWp_skip ?_
                        -- region 38 ref.go:364
                        refine AWp_regL ?_
                        refine st rfl rfl rfl (op_moveO rfl rfl) ?_
                        refine st rfl rfl rfl (op_add64 rfl rfl rfl (by omega) (by omega)) ?_
                        refine st rfl rfl rfl (op_assignO rfl rfl) ?_
                        refine AOps_nil ?_
                        have hk8 : k < 8 := by omega
                        have hmiss := escK_miss (c := (bat s (i + 1)).toNat) hk8 (by omega)
                        refine ⟨k + 1, σ.length, by omega, by omega, Nat.le_refl _, ⟨rfl, rfl, rfl, ?_, rfl, rfl, rfl, ?_, rfl, trivial⟩, hcl, ?_, List.take_length⟩
                        · rw [hmiss]; rfl
                        · rw [hmiss]; rfl
                        · simp [ltE, AV.lt, AV.ltL, AV.ltLL]
                    · (try rw [h21]); (try simp only [decide_eq_true_eq, decide_eq_false_iff_not, Bool.not_eq_true', Bool.not_eq_false', Int.not_lt, Int.not_le, Bool.not_true, Bool.not_false, Int.toNat_natCast, tn1, tn2, tnn, bne_iff_ne, beq_iff_eq, beq_eq_false_iff_ne, ne_eq, Decidable.not_not] at h21)
                      refine AWp_exit ?_
                      refine AWp_seq ?_
                      refine AWp_seq ?_
                      -- region 42 ref.go:370
                      refine AWp_regL ?_
                      refine st rfl rfl rfl (op_moveO rfl rfl) ?_
                      refine st rfl rfl rfl (op_not rfl rfl) ?_
                      refine AOps_nil ?_
                      refine AWp_cond rfl (fun h23 => ?_) (fun h23 => ?_)
                      · (try rw [h23]); (try simp only [decide_eq_true_eq, decide_eq_false_iff_not, Bool.not_eq_true', Bool.not_eq_false', Int.not_lt, Int.not_le, Bool.not_true, Bool.not_false, Int.toNat_natCast, tn1, tn2, tnn, bne_iff_ne, beq_iff_eq, beq_eq_false_iff_ne, ne_eq, Decidable.not_not] at h23)
                        have h8 : k = 8 := by omega
                        subst h8
                        rw [escK_all] at h23
                        have h23 := Option.isNone_iff_eq_none.1 (by rw [← Option.not_isSome, h23]; rfl)
                        refine AWp_seq ?_
                        -- region 43 ref.go:371
                        refine AWp_regL ?_
                        refine st rfl rfl rfl (op_moveO rfl rfl) ?_
                        refine st rfl rfl rfl (op_add64 rfl rfl rfl (by omega) (by omega)) ?_
                        refine st rfl rfl rfl (op_assignO rfl rfl) ?_
                        refine st rfl rfl rfl (op_assignO rfl rfl) ?_
                        refine st rfl rfl rfl (op_assignO rfl rfl) ?_
                        refine st rfl rfl rfl (op_assignO rfl rfl) ?_
                        refine AOps_nil ?_
                        refine AWp_ret ?_
                        (try simp only [blockQ, thenQ])
                        first | (exfalso; omega; done) | (rw [← hq1, unqF_q (by omega) (by omega)]; exact ResQ_40 rfl rfl rfl rfl hcl (by simp [AV.lt, AV.ltL]) (Ret_of (by dsimp only; rw [Int.toNat_of_nonneg (show 0 ≤ a by omega)]))) | (rw [← hq1, unqF_ctl (by omega) (by omega)]; exact ResQ_40 rfl rfl rfl rfl hcl (by simp [AV.lt, AV.ltL]) (Ret_of rfl)) | (rw [← hq1, unqF_bad (by omega) (by omega) (by omega) (by omega) (by omega)]; exact ResQ_40 rfl rfl rfl rfl hcl (by simp [AV.lt, AV.ltL]) (Ret_of rfl)) | (rw [← hq1, unqF_last (by omega) (by omega)]; exact ResQ_40 rfl rfl rfl rfl hcl (by simp [AV.lt, AV.ltL]) (Ret_of rfl)) | (rw [← hq1, unqF_hb (by omega) (by omega) (by omega) (by omega)]; exact ResQ_40 rfl rfl rfl rfl hcl (by simp [AV.lt, AV.ltL]) (Ret_of rfl)) | (rw [← hq1, unqF_sur (by omega) (by omega) (by omega) (by omega) (by omega) (by omega)]; exact ResQ_40 rfl rfl rfl rfl hcl (by simp [AV.lt, AV.ltL]) (Ret_of rfl)) | (rw [← hq1, unqF_eb (by omega) (by omega) (by omega) (by assumption)]; exact ResQ_40 rfl rfl rfl rfl hcl (by simp [AV.lt, AV.ltL]) (Ret_of rfl)) | (rw [← hq1, unqF_end (by omega)]; exact ResQ_40 rfl rfl rfl rfl hcl (by simp [AV.lt, AV.ltL]) (Ret_of rfl))
                      · (try rw [h23]); (try simp only [decide_eq_true_eq, decide_eq_false_iff_not, Bool.not_eq_true', Bool.not_eq_false', Int.not_lt, Int.not_le, Bool.not_true, Bool.not_false, Int.toNat_natCast, tn1, tn2, tnn, bne_iff_ne, beq_iff_eq, beq_eq_false_iff_ne, ne_eq, Decidable.not_not] at h23)
                        have h8 : k = 8 := by omega
                        subst h8
                        rw [escK_all] at h23
                        obtain ⟨b, hb⟩ := Option.isSome_iff_exists.1 h23
                        have h1b : (ByteArray.mk #[UInt8.ofNat b]).size = 1 := rfl
                        refine AWp_skip ?_
                        -- region 44 ref.go:373
                        refine AWp_regL ?_
                        refine st rfl rfl rfl (op_moveO rfl rfl) ?_
                        refine st rfl rfl rfl (op_add64 rfl rfl rfl (by omega) (by omega)) ?_
                        refine st rfl rfl rfl (op_assignO rfl rfl) ?_
                        refine AOps_nil ?_
                        first | exact ⟨(i + u8 s i, out ++ s.extract i (i + u8 s i)), σ.length, ⟨by rw [← hq1]; exact (unqF_plain (by omega) (by omega) (by omega) (by omega) (by omega)).symm, by simp only; omega, by simp only; omega, by simp only [ByteArray.size_append, ByteArray.size_extract]; omega⟩, by simp only; omega, Nat.le_refl _, ⟨rfl, rfl, rfl, rfl, rfl, trivial⟩, hcl, by simp [ltE, AV.lt], List.take_length⟩ | exact ⟨(i + 12, out ++ rchar (65536 + 1024 * ((rhex s (i + 2)).1 - 55296) + rlow s (i + 6) - 56320)), σ.length, ⟨by rw [← hq1]; exact (unqF_pair (by omega) (by omega) (by omega) (by omega) (by omega)).symm, by simp only; omega, by simp only; omega, by simp only [ByteArray.size_append, ByteArray.size_extract]; omega⟩, by simp only; omega, Nat.le_refl _, ⟨rfl, rfl, rfl, rfl, rfl, trivial⟩, hcl, by simp [ltE, AV.lt], List.take_length⟩ | exact ⟨(i + 6, out ++ rchar (rhex s (i + 2)).1), σ.length, ⟨by rw [← hq1]; exact (unqF_u (by omega) (by omega) (by omega) (by omega) (by omega) (by omega)).symm, by simp only; omega, by simp only; omega, by simp only [ByteArray.size_append, ByteArray.size_extract]; omega⟩, by simp only; omega, Nat.le_refl _, ⟨rfl, rfl, rfl, rfl, rfl, trivial⟩, hcl, by simp [ltE, AV.lt], List.take_length⟩ | exact ⟨(i + 2, out ++ ⟨#[UInt8.ofNat b]⟩), σ.length, ⟨by rw [← hq1]; exact (unqF_e (by omega) (by omega) (by omega) hb).symm, by simp only; omega, by simp only; omega, by simp only [ByteArray.size_append, ByteArray.size_extract]; omega⟩, by simp only; omega, Nat.le_refl _, ⟨rfl, rfl, rfl, by rw [escK_all, hb]; rfl, rfl, trivial⟩, hcl, by simp [ltE, AV.lt], List.take_length⟩
        · (try rw [h4]); (try simp only [decide_eq_true_eq, decide_eq_false_iff_not, Bool.not_eq_true', Bool.not_eq_false', Int.not_lt, Int.not_le, Bool.not_true, Bool.not_false, Int.toNat_natCast, tn1, tn2, tnn, bne_iff_ne, beq_iff_eq, beq_eq_false_iff_ne, ne_eq, Decidable.not_not] at h4)
          refine AWp_exit ?_
          refine AWp_seq ?_
          -- region 45 ref.go:375
          refine AWp_regL ?_
          refine st rfl rfl rfl (op_moveO rfl rfl) ?_
          refine st rfl rfl rfl (op_lenStr rfl rfl Tryd.underlying9 rfl) ?_
          refine st rfl rfl rfl (op_assignO rfl rfl) ?_
          refine st rfl rfl rfl (op_assignO rfl rfl) ?_
          refine st rfl rfl rfl (op_assignO rfl rfl) ?_
          refine st rfl rfl rfl (op_assignO rfl rfl) ?_
          refine AOps_nil ?_
          refine AWp_ret ?_
          (try simp only [blockQ, thenQ])
          first | (exfalso; omega; done) | (rw [← hq1, unqF_q (by omega) (by omega)]; exact ResQ_40 rfl rfl rfl rfl hcl (by simp [AV.lt, AV.ltL]) (Ret_of (by dsimp only; rw [Int.toNat_of_nonneg (show 0 ≤ a by omega)]))) | (rw [← hq1, unqF_ctl (by omega) (by omega)]; exact ResQ_40 rfl rfl rfl rfl hcl (by simp [AV.lt, AV.ltL]) (Ret_of rfl)) | (rw [← hq1, unqF_bad (by omega) (by omega) (by omega) (by omega) (by omega)]; exact ResQ_40 rfl rfl rfl rfl hcl (by simp [AV.lt, AV.ltL]) (Ret_of rfl)) | (rw [← hq1, unqF_last (by omega) (by omega)]; exact ResQ_40 rfl rfl rfl rfl hcl (by simp [AV.lt, AV.ltL]) (Ret_of rfl)) | (rw [← hq1, unqF_hb (by omega) (by omega) (by omega) (by omega)]; exact ResQ_40 rfl rfl rfl rfl hcl (by simp [AV.lt, AV.ltL]) (Ret_of rfl)) | (rw [← hq1, unqF_sur (by omega) (by omega) (by omega) (by omega) (by omega) (by omega)]; exact ResQ_40 rfl rfl rfl rfl hcl (by simp [AV.lt, AV.ltL]) (Ret_of rfl)) | (rw [← hq1, unqF_eb (by omega) (by omega) (by omega) (by assumption)]; exact ResQ_40 rfl rfl rfl rfl hcl (by simp [AV.lt, AV.ltL]) (Ret_of rfl)) | (rw [← hq1, unqF_end (by omega)]; exact ResQ_40 rfl rfl rfl rfl hcl (by simp [AV.lt, AV.ltL]) (Ret_of rfl))

end Lg
namespace Lg
open Go
/-! ### A number's text, plainly -/
structure NSt where
  neg : Bool
  down : Bool
  point : Bool
  power : Bool
  digits : ByteArray
  behind : Int
  exp : Int
def nst0 : NSt := ⟨false, false, false, false, e0, 0, 0⟩
def nstep (c : Nat) (t : NSt) : NSt :=
  if t.power = true then { t with down := if c = 45 then true else t.down, exp := if 48 ≤ c ∧ c ≤ 57 then min (10 * t.exp + c - 48) 1000000 else t.exp }
  else if c = 45 then { t with neg := true } else if c = 46 then { t with point := true } else if c = 101 ∨ c = 69 then { t with power := true }
  else { t with digits := t.digits ++ ⟨#[u8b (c : Int)]⟩, behind := if t.point = true then t.behind + 1 else t.behind }
def nloop (s : ByteArray) (i : Nat) (t : NSt) : NSt := if i < s.size then nloop s (i + 1) (nstep (bat s i).toNat t) else t
termination_by s.size - i
section
variable {s : ByteArray} {i : Nat} {ng dn pt pw : Bool} {d : ByteArray} {b x : Int}
theorem nl0 {t : NSt} (h : s.size ≤ i) : nloop s i t = t := by rw [nloop, if_neg (by omega)]
theorem nl1 (h : i < s.size) (hc : (bat s i).toNat = 45) : nloop s i ⟨ng, dn, pt, true, d, b, x⟩ = nloop s (i + 1) ⟨ng, true, pt, true, d, b, x⟩ := by
  rw [nloop.eq_1 s i, if_pos h]; congr 1; simp [nstep, hc]
theorem nl2 (h : i < s.size) (hc : 48 ≤ (bat s i).toNat ∧ (bat s i).toNat ≤ 57) : nloop s i ⟨ng, dn, pt, true, d, b, x⟩ = nloop s (i + 1) ⟨ng, dn, pt, true, d, b, min (10 * x + (bat s i).toNat - 48) 1000000⟩ := by
  rw [nloop.eq_1 s i, if_pos h]; congr 1; simp [nstep, hc]; omega
theorem nl3 (h : i < s.size) (h1 : ¬ (bat s i).toNat = 45) (hc : ¬ (48 ≤ (bat s i).toNat ∧ (bat s i).toNat ≤ 57)) : nloop s i ⟨ng, dn, pt, true, d, b, x⟩ = nloop s (i + 1) ⟨ng, dn, pt, true, d, b, x⟩ := by
  rw [nloop.eq_1 s i, if_pos h]; congr 1; simp only [nstep, h1, hc, if_true, if_false]
theorem nl4 (h : i < s.size) (hc : (bat s i).toNat = 45) : nloop s i ⟨ng, dn, pt, false, d, b, x⟩ = nloop s (i + 1) ⟨true, dn, pt, false, d, b, x⟩ := by
  rw [nloop.eq_1 s i, if_pos h]; congr 1; simp [nstep, hc]
theorem nl5 (h : i < s.size) (hc : (bat s i).toNat = 46) : nloop s i ⟨ng, dn, pt, false, d, b, x⟩ = nloop s (i + 1) ⟨ng, dn, true, false, d, b, x⟩ := by
  rw [nloop.eq_1 s i, if_pos h]; congr 1; simp [nstep, hc]
theorem nl6 (h : i < s.size) (hc : (bat s i).toNat = 101 ∨ (bat s i).toNat = 69) : nloop s i ⟨ng, dn, pt, false, d, b, x⟩ = nloop s (i + 1) ⟨ng, dn, pt, true, d, b, x⟩ := by
  rw [nloop.eq_1 s i, if_pos h]; congr 1; have h1 : ¬ (bat s i).toNat = 45 := by omega
  have h2 : ¬ (bat s i).toNat = 46 := by omega
  simp [nstep, h1, h2, hc]
theorem nl7 (h : i < s.size) (h1 : ¬ (bat s i).toNat = 45) (h2 : ¬ (bat s i).toNat = 46) (hc : ¬ ((bat s i).toNat = 101 ∨ (bat s i).toNat = 69)) : nloop s i ⟨ng, dn, true, false, d, b, x⟩ = nloop s (i + 1) ⟨ng, dn, true, false, d ++ ⟨#[u8b ((bat s i).toNat : Int)]⟩, b + 1, x⟩ := by
  rw [nloop.eq_1 s i, if_pos h]; congr 1; simp [nstep, h1, h2, hc]
theorem nl8 (h : i < s.size) (h1 : ¬ (bat s i).toNat = 45) (h2 : ¬ (bat s i).toNat = 46) (hc : ¬ ((bat s i).toNat = 101 ∨ (bat s i).toNat = 69)) : nloop s i ⟨ng, dn, false, false, d, b, x⟩ = nloop s (i + 1) ⟨ng, dn, false, false, d ++ ⟨#[u8b ((bat s i).toNat : Int)]⟩, b, x⟩ := by
  rw [nloop.eq_1 s i, if_pos h]; congr 1; simp [nstep, h1, h2, hc]
end
section
variable [GLay] {P : Program} {σ : List AO} {e : Env} {o : Oper}
theorem op_neg64 {T : TypeId} {x : Operand} {n : Int} (ho : o.op = .unOp .neg T x) (hx : opv e x = .int .i64 n) (h1 : -9223372036854775808 ≤ -n) (h2 : -n ≤ 9223372036854775807) : AOp P σ e o (.int .i64 (-n)) σ := by
  have := op_neg (P := P) (σ := σ) ho hx
  rw [Int.zero_sub, wrap64_in h1 h2] at this
  exact this
end
def fz (d : ByteArray) (i : Nat) : Nat := if i < d.size ∧ (bat d i).toNat = 48 then fz d (i + 1) else i
termination_by d.size - i
def lz (d : ByteArray) (f : Nat) : Nat → Nat
  | 0 => 0
  | l + 1 => if f < l + 1 ∧ (bat d l).toNat = 48 then lz d f l else l + 1
theorem fz_yes {d : ByteArray} {i : Nat} (h : i < d.size) (h1 : (bat d i).toNat = 48) : fz d i = fz d (i + 1) := by rw [fz.eq_1 d i, if_pos ⟨h, h1⟩]
theorem fz_no {d : ByteArray} {i : Nat} (h : ¬ (i < d.size ∧ (bat d i).toNat = 48)) : fz d i = i := by rw [fz.eq_1 d i, if_neg h]
theorem lz_yes {d : ByteArray} {f l : Nat} (h : f < l) (h1 : (bat d (l - 1)).toNat = 48) : lz d f l = lz d f (l - 1) := by
  cases l with
  | zero => omega
  | succ l => rw [lz, if_pos ⟨h, by simpa using h1⟩]; rfl
theorem lz_no {d : ByteArray} {f l : Nat} (h : ¬ (f < l ∧ (bat d (l - 1)).toNat = 48)) (hf : f ≤ l) : lz d f l = l := by
  cases l with
  | zero => rfl
  | succ l => rw [lz, if_neg (by simpa using h)]
def nsgn (t : NSt) : Int := if t.down = true then -t.exp else t.exp
def nF (t : NSt) : Nat := fz t.digits 0
def nL (t : NSt) : Nat := lz t.digits (nF t) t.digits.size
def nOf (t : NSt) : JNum := ⟨t.neg, t.digits.extract (nF t) (nL t), nsgn t - t.behind + ((t.digits.size : Int) - nL t)⟩
open Classical in
/-- The number of a text. -/
noncomputable def rNum (s : ByteArray) : JNum × Int :=
  if (rEnd s 0).2 = false ∨ ¬ (rEnd s 0).1 = s.size then ({}, 1) else
  if nF (nloop s 0 nst0) = nL (nloop s 0 nst0) then ({}, 0) else
  if NumMay (nOf (nloop s 0 nst0)) then (nOf (nloop s 0 nst0), 0) else ({}, 5)
theorem rNum_may (s : ByteArray) : NumMay (rNum s).1 := by
  unfold rNum
  have h0 : NumMay {} := .inl ⟨rfl, rfl, rfl⟩
  repeat' split
  all_goals first | exact h0 | assumption
theorem NumMay.size {n : JNum} (h : NumMay n) : n.digits.size ≤ 60 := by
  rcases h with ⟨h, _⟩ | ⟨_, _, h, _⟩
  · rw [h]; exact Nat.zero_le _
  · exact h
end Lg
namespace Lg
open Go Go.Lib
/-! ### UTF-8, put together -/
def u8L (l : List UInt8) : Nat := u8N l.length (l.getD 0 0).toNat (l.getD 1 0).toNat (l.getD 2 0).toNat (l.getD 3 0).toNat
theorem validD_u8 (l : List UInt8) (hne : l ≠ []) : validD l = if u8L l = 0 then false else validD (l.drop (u8L l)) := by
  rw [validD_step _ hne]
  have hw := decodeL_width l
  rw [decodeL_N] at hw ⊢
  unfold u8L u8N
  by_cases hc : (decodeN l.length (l.getD 0 0).toNat (l.getD 1 0).toNat (l.getD 2 0).toNat (l.getD 3 0).toNat).1 = 65533 ∧ (decodeN l.length (l.getD 0 0).toNat (l.getD 1 0).toNat (l.getD 2 0).toNat (l.getD 3 0).toNat).2 = 1
  · rw [if_pos hc, if_pos hc, if_pos rfl]
  · rw [if_neg hc, if_neg hc, if_neg (by omega)]
theorem u8N_pre {n b0 b1 b2 b3 n' c0 c1 c2 c3 w : Nat} (hb0 : b0 < 256) (h : u8N n b0 b1 b2 b3 = w) (hw : w ≠ 0) (hl : w ≤ n') (h0 : c0 = b0) (h1 : 1 < w → c1 = b1) (h2 : 2 < w → c2 = b2) (h3 : 3 < w → c3 = b3) (hn : 1 ≤ n) :
    u8N n' c0 c1 c2 c3 = w ∧ w ≤ n := by
  subst h0
  by_cases k0 : c0 < 128
  · rw [u8N_1 k0] at h; subst h; exact ⟨u8N_1 k0, hn⟩
  by_cases k1 : c0 < 192 ∨ 248 ≤ c0
  · rw [u8N_0 (by omega) hb0] at h; exact absurd h.symm hw
  by_cases k2 : c0 < 224
  · rw [u8N_2 (by omega) k2] at h
    split at h
    · subst h
      have := h1 (by omega); subst this
      rw [u8N_2 (by omega) k2, if_pos (by omega)]; omega
    · exact absurd h.symm hw
  by_cases k3 : c0 < 240
  · rw [u8N_3 (by omega) k3 rfl] at h
    split at h
    · subst h
      have := h1 (by omega); subst this
      have := h2 (by omega); subst this
      rw [u8N_3 (by omega) k3 rfl, if_pos (by omega)]; omega
    · exact absurd h.symm hw
  · rw [u8N_4 (by omega) (by omega) rfl] at h
    split at h
    · subst h
      have := h1 (by omega); subst this
      have := h2 (by omega); subst this
      have := h3 (by omega); subst this
      rw [u8N_4 (by omega) (by omega) rfl, if_pos (by omega)]; omega
    · exact absurd h.symm hw
theorem u8L_pre {L L' : List UInt8} (hne : L ≠ []) (hw : u8L L ≠ 0) (hl : u8L L ≤ L'.length) (hp : ∀ k, k < u8L L → L'.getD k 0 = L.getD k 0) : u8L L' = u8L L ∧ u8L L ≤ L.length := by
  have hn : 1 ≤ L.length := by cases L with
    | nil => exact absurd rfl hne
    | cons => simp
  exact u8N_pre (L.getD 0 0).toNat_lt (rfl : u8L L = u8L L) hw hl (by rw [hp 0 (by omega)]) (fun h => by rw [hp 1 h]) (fun h => by rw [hp 2 h]) (fun h => by rw [hp 3 h]) hn
theorem validD_app (m : List UInt8) (hm : validD m = true) : ∀ (n : Nat) (l : List UInt8), l.length ≤ n → validD l = true → validD (l ++ m) = true := by
  intro n
  induction n with
  | zero => intro l hl _; have : l = [] := List.eq_nil_of_length_eq_zero (by omega); subst this; exact hm
  | succ n ih =>
    intro l hl h
    by_cases hne : l = []
    · subst hne; exact hm
    rw [validD_u8 l hne] at h
    split at h
    · cases h
    · rename_i hw
      have hle := (u8L_pre hne hw (L' := l ++ List.replicate (u8L l) 0) (by simp) (fun k hk => by
        by_cases hkl : k < l.length
        · simp [List.getD_eq_getElem?_getD, List.getElem?_append_left hkl]
        · simp only [List.getD_eq_getElem?_getD]
          rw [List.getElem?_append_right (by omega), List.getElem?_eq_none (l := l) (by omega)]
          rw [List.getElem?_replicate]; split <;> rfl)).2
      have he := (u8L_pre hne hw (L' := l ++ m) (by simp; omega) (fun k hk => by
        simp [List.getD_eq_getElem?_getD, List.getElem?_append_left (show k < l.length by omega)])).1
      rw [validD_u8 (l ++ m) (by simp [hne]), he, if_neg hw, List.drop_append_of_le_length hle]
      exact ih _ (by rw [List.length_drop]; omega) h
theorem Utf.app {a b : ByteArray} (ha : Utf a) (hb : Utf b) : Utf (a ++ b) := by
  unfold Utf at *
  have : (a ++ b).data.toList = a.data.toList ++ b.data.toList := by simp
  rw [this]
  exact validD_app _ hb _ _ (Nat.le_refl _) ha
theorem u8L_bat (s : ByteArray) (i : Nat) : u8L (s.data.toList.drop i) = u8 s i := by
  have hg : ∀ k, (s.data.toList.drop i).getD k 0 = bat s (i + k) := fun k => by simp [bat, List.getD, List.getElem?_drop]
  unfold u8L u8
  rw [hg, hg, hg, hg, List.length_drop, Array.length_toList]; rfl
theorem Utf.ext {s : ByteArray} {i : Nat} (h : i < s.size) (hu : ¬ u8 s i = 0) : Utf (s.extract i (i + u8 s i)) := by
  have hne : s.data.toList.drop i ≠ [] := by
    intro e
    have := congrArg List.length e
    rw [List.length_drop, Array.length_toList] at this
    have h' : i < s.data.size := h
    simp at this; omega
  have hle := u8_le h
  have hsz : s.data.size = s.size := rfl
  have hlist : (s.extract i (i + u8 s i)).data.toList = (s.data.toList.drop i).take (u8 s i) := by
    simp [ByteArray.data_extract, List.extract_eq_take_drop]
  have hlen : ((s.data.toList.drop i).take (u8 s i)).length = u8 s i := by simp; omega
  unfold Utf
  rw [hlist]
  have he := (u8L_pre hne (by rw [u8L_bat]; exact hu) (L' := (s.data.toList.drop i).take (u8 s i)) (by rw [hlen, u8L_bat]; exact Nat.le_refl _) (fun k hk => by
    rw [u8L_bat] at hk
    simp only [List.getD_eq_getElem?_getD, List.getElem?_take, hk, if_true])).1
  rw [u8L_bat] at he
  rw [validD_u8 _ (fun e => by rw [e] at hlen; simp at hlen; omega), he, if_neg hu, List.drop_eq_nil_of_le (by omega)]
  rfl
theorem u8b_nat {n : Int} (h0 : 0 ≤ n) (h1 : n < 256) : (u8b n).toNat = n.toNat := by
  have := u8b_toNat h0 h1; omega
theorem Utf.char {v : Int} (h0 : 0 ≤ v) (h1 : v < 1114112) (h2 : ¬ (55296 ≤ v ∧ v < 57344)) : Utf (rchar v) := by
  unfold Utf rchar
  split
  · show validD [u8b v] = true
    rw [validD_cons _ _ (by rw [u8b_nat h0 (by omega)]; omega)]; rfl
  split
  · show validD [u8b (192 + v / 64), u8b (128 + v % 64)] = true
    have e : u8L [u8b (192 + v / 64), u8b (128 + v % 64)] = 2 := by
      show u8N 2 (u8b (192 + v / 64)).toNat (u8b (128 + v % 64)).toNat 0 0 = 2
      rw [u8b_nat (by omega) (by omega), u8b_nat (by omega) (by omega), u8N_2 (by omega) (by omega), if_pos (by omega)]
    rw [validD_u8 _ (by simp), e]; rfl
  split
  · show validD [u8b (224 + v / 4096), u8b (128 + v / 64 % 64), u8b (128 + v % 64)] = true
    have e : u8L [u8b (224 + v / 4096), u8b (128 + v / 64 % 64), u8b (128 + v % 64)] = 3 := by
      show u8N 3 (u8b (224 + v / 4096)).toNat (u8b (128 + v / 64 % 64)).toNat (u8b (128 + v % 64)).toNat 0 = 3
      rw [u8b_nat (by omega) (by omega), u8b_nat (by omega) (by omega), u8b_nat (by omega) (by omega), u8N_3 (by omega) (by omega) rfl, if_pos (by omega)]
    rw [validD_u8 _ (by simp), e]; rfl
  · show validD [u8b (240 + v / 262144), u8b (128 + v / 4096 % 64), u8b (128 + v / 64 % 64), u8b (128 + v % 64)] = true
    have e : u8L [u8b (240 + v / 262144), u8b (128 + v / 4096 % 64), u8b (128 + v / 64 % 64), u8b (128 + v % 64)] = 4 := by
      show u8N 4 (u8b (240 + v / 262144)).toNat (u8b (128 + v / 4096 % 64)).toNat (u8b (128 + v / 64 % 64)).toNat (u8b (128 + v % 64)).toNat = 4
      rw [u8b_nat (by omega) (by omega), u8b_nat (by omega) (by omega), u8b_nat (by omega) (by omega), u8b_nat (by omega) (by omega), u8N_4 (by omega) (by omega) rfl, if_pos (by omega)]
    rw [validD_u8 _ (by simp), e]; rfl
theorem esc_ok {c b : Nat} (h : esc c = some b) : b < 128 := by
  unfold esc at h
  rw [Option.map_eq_some_iff] at h
  obtain ⟨q, hq, rfl⟩ := h
  have := List.mem_of_find?_eq_some hq
  revert this
  have : ∀ q ∈ escL, q.2 < 128 := by decide
  exact this q
theorem Utf.asc {b : Nat} (h : b < 128) : Utf ⟨#[UInt8.ofNat b]⟩ := by
  unfold Utf
  show validD [UInt8.ofNat b] = true
  rw [validD_cons _ _ (by rw [UInt8.toNat_ofNat']; omega)]; rfl
/-- What a text in quotes comes to. -/
def UOK (s : ByteArray) (a : Nat) (u : UR) : Prop := (u.bad = 0 ∧ 0 ≤ u.n ∧ (a : Int) + u.n ≤ s.size ∧ Utf u.s ∧ (u.s.size : Int) ≤ u.n) ∨ ((u.bad = 1 ∨ u.bad = 2) ∧ u.n = 0 ∧ u.s = e0)
theorem unqF_ok (s : ByteArray) (a : Nat) : ∀ (k i : Nat) (out : ByteArray), s.size - i ≤ k → a < i → Utf out → out.size ≤ i - a → UOK s a (unqF s a i out) := by
  intro k
  induction k with
  | zero => intro i out hk hi hu ho; rw [unqF_end (by omega)]; exact .inr ⟨.inl rfl, rfl, rfl⟩
  | succ k ih =>
    intro i out hk hi hu ho
    by_cases h : s.size ≤ i
    · rw [unqF_end h]; exact .inr ⟨.inl rfl, rfl, rfl⟩
    by_cases h1 : (bat s i).toNat = 34
    · rw [unqF_q (by omega) h1]; exact .inl ⟨rfl, by dsimp only; omega, by dsimp only; omega, hu, by dsimp only; omega⟩
    by_cases h2 : (bat s i).toNat < 32
    · rw [unqF_ctl (by omega) h2]; exact .inr ⟨.inl rfl, rfl, rfl⟩
    by_cases h3 : (bat s i).toNat = 92
    · by_cases h4 : i + 1 = s.size
      · rw [unqF_last h4 h3]; exact .inr ⟨.inl rfl, rfl, rfl⟩
      by_cases h5 : (bat s (i + 1)).toNat = 117
      · by_cases h6 : 0 ≤ (rhex s (i + 2)).2
        · rw [unqF_hb (by omega) h3 h5 h6]; exact .inr ⟨.inl rfl, rfl, rfl⟩
        have hx := rhex_ok s (i + 2)
        have hl := rlow_ok s (i + 6)
        by_cases h7 : 55296 ≤ (rhex s (i + 2)).1 ∧ (rhex s (i + 2)).1 < 56320 ∧ 0 ≤ rlow s (i + 6)
        · rw [unqF_pair (by omega) h3 h5 (by omega) h7]
          have hs := rchar_size (65536 + 1024 * ((rhex s (i + 2)).1 - 55296) + rlow s (i + 6) - 56320)
          exact ih _ _ (by omega) (by omega) (hu.app (Utf.char (by omega) (by omega) (by omega))) (by rw [ByteArray.size_append]; omega)
        by_cases h8 : 55296 ≤ (rhex s (i + 2)).1 ∧ (rhex s (i + 2)).1 < 57344
        · rw [unqF_sur (by omega) h3 h5 (by omega) h7 h8]; exact .inr ⟨.inr rfl, rfl, rfl⟩
        · rw [unqF_u (by omega) h3 h5 (by omega) h7 h8]
          have hs := rchar_size (rhex s (i + 2)).1
          exact ih _ _ (by omega) (by omega) (hu.app (Utf.char (by omega) (by omega) h8)) (by rw [ByteArray.size_append]; omega)
      · cases h6 : esc (bat s (i + 1)).toNat with
        | none => rw [unqF_eb (by omega) h3 h5 h6]; exact .inr ⟨.inl rfl, rfl, rfl⟩
        | some b =>
          rw [unqF_e (by omega) h3 h5 h6]
          have h1b : (ByteArray.mk #[UInt8.ofNat b]).size = 1 := rfl
          exact ih _ _ (by omega) (by omega) (hu.app (Utf.asc (esc_ok h6))) (by rw [ByteArray.size_append]; omega)
    · by_cases h4 : u8 s i = 0
      · rw [unqF_bad (by omega) h1 (by omega) h3 h4]; exact .inr ⟨.inr rfl, rfl, rfl⟩
      · rw [unqF_plain (by omega) h1 (by omega) h3 h4]
        exact ih _ _ (by omega) (by omega) (hu.app (Utf.ext (by omega) h4)) (by rw [ByteArray.size_append, ByteArray.size_extract]; omega)
theorem rUnq_ok (s : ByteArray) (a : Nat) : UOK s a (rUnq s (a : Int)) := by
  unfold rUnq
  split
  · exact .inr ⟨.inl rfl, rfl, rfl⟩
  split
  · exact .inr ⟨.inl rfl, rfl, rfl⟩
  · rw [Int.toNat_natCast]
    exact unqF_ok s a _ _ _ (Nat.le_refl _) (by omega) rfl (Nat.zero_le _)
end Lg
namespace Lg
open Go
/-! ### The reader, plainly -/
structure RS where
  a : Nat
  deep : Int
  bad : Int
  spot : Int
abbrev rbox (s : ByteArray) (r : RS) : AO := .box [.str s, .int .i64 (r.a : Int), .int .i64 r.deep, .int .i64 r.bad, .int .i64 r.spot]
def rfail (r : RS) (a b : Int) : RS := ⟨r.a, r.deep, if r.bad = 0 then b else r.bad, if r.bad = 0 then a else r.spot⟩
def rblank (s : ByteArray) (r : RS) : RS := ⟨if r.bad = 0 then blk s r.a else r.a, r.deep, r.bad, r.spot⟩
def ropen (s : ByteArray) (r : RS) : RS :=
  ⟨if (if r.deep = 32 then (if r.bad = 0 then 3 else r.bad) else r.bad) = 0 then blk s (r.a + 1) else r.a + 1, r.deep + 1, if r.deep = 32 then (if r.bad = 0 then 3 else r.bad) else r.bad, if r.deep = 32 then (if r.bad = 0 then (r.a : Int) else r.spot) else r.spot⟩
def rinc (r : RS) : RS := ⟨r.a + 1, r.deep, r.bad, r.spot⟩
def wstep (s : ByteArray) (c : UInt8) (r : RS) : RS := if pkv s r.a r.bad = c.toNat then rinc r else rinc (rfail r r.a 1)
def wantF (s lit : ByteArray) (i : Nat) (r : RS) : RS := if i < lit.size ∧ r.bad = 0 then wantF s lit (i + 1) (wstep s (bat lit i) r) else r
termination_by lit.size - i
def rwant (s lit : ByteArray) (r : RS) : RS := wantF s lit 0 r
def rtext (s : ByteArray) (r : RS) : ByteArray × RS :=
  if r.bad = 0 then ((rUnq s r.a).s, ⟨r.a + (rUnq s r.a).n.toNat, r.deep, (rUnq s r.a).bad, if (rUnq s r.a).bad = 0 then r.spot else (rUnq s r.a).at_⟩) else (e0, r)
def rdec (r : RS) : RS := ⟨r.a, r.deep - 1, r.bad, r.spot⟩
section
variable (rv : RS → JV × RS) (s : ByteArray)
def rarrF : Nat → List JV → RS → List JV × RS
  | 0, l, r => (l, r)
  | k + 1, l, r => if r.bad = 0 ∧ (¬ pkv s r.a r.bad = 93 ∨ 0 < l.length) then
      (if pkv s (rv r).2.a (rv r).2.bad = 44 then rarrF k (l ++ [(rv r).1]) (rinc (rv r).2) else (l ++ [(rv r).1], (rv r).2))
    else (l, r)
def rb1 : ByteArray := ⟨#[93]⟩
def rb2 : ByteArray := ⟨#[125]⟩
def rb3 : ByteArray := ⟨#[58]⟩
def rarr (r : RS) : JV × RS := (.mk 4 false {} e0 (rarrF rv s (s.size + 2) [] (ropen s r)).1 [], rdec (rwant s rb1 (rarrF rv s (s.size + 2) [] (ropen s r)).2))
def rinsK (m : List (ByteArray × JV)) (key : ByteArray) : Nat := (m.takeWhile fun q => blt q.1 key).length
def rins (m : List (ByteArray × JV)) (key : ByteArray) (x : JV) : List (ByteArray × JV) := m.take (rinsK m key) ++ (key, x) :: m.drop (rinsK m key)
def mkO (m : List (ByteArray × JV)) : JV := .mk 5 false {} e0 [] m
/-- Behind a member's key: a key that was there is amiss. -/
def rk2 (m : List (ByteArray × JV)) (r : RS) : RS := if (jfind (mkO m) (rtext s (rblank s r)).1).isSome = true then rfail (rtext s (rblank s r)).2 (rblank s r).a 4 else (rtext s (rblank s r)).2
/-- A member's key, and what stands behind it: up to its value. -/
def rkey (m : List (ByteArray × JV)) (r : RS) : ByteArray × RS := ((rtext s (rblank s r)).1, rwant s rb3 (rblank s (rk2 s m r)))
def robjF : Nat → List (ByteArray × JV) → RS → List (ByteArray × JV) × RS
  | 0, m, r => (m, r)
  | k + 1, m, r => if r.bad = 0 ∧ (¬ pkv s r.a r.bad = 125 ∨ 0 < m.length) then
      (if pkv s (rv (rkey s m r).2).2.a (rv (rkey s m r).2).2.bad = 44 then robjF k (rins m (rkey s m r).1 (rv (rkey s m r).2).1) (rinc (rv (rkey s m r).2).2) else (rins m (rkey s m r).1 (rv (rkey s m r).2).1, (rv (rkey s m r).2).2))
    else (m, r)
def robj (r : RS) : JV × RS := (mkO (robjF rv s (s.size + 2) [] (ropen s r)).1, rdec (rwant s rb2 (robjF rv s (s.size + 2) [] (ropen s r)).2))
end
def lNull : ByteArray := ⟨#[110, 117, 108, 108]⟩
def lTrue : ByteArray := ⟨#[116, 114, 117, 101]⟩
def lFalse : ByteArray := ⟨#[102, 97, 108, 115, 101]⟩
noncomputable def rnumv (s : ByteArray) (r : RS) : JV × RS :=
  (.mk 2 false (rNum (s.extract r.a (rEnd s r.a).1)).1 e0 [] [],
   ⟨(rEnd s r.a).1, r.deep, (if (rNum (s.extract r.a (rEnd s r.a).1)).2 = 0 then (if (rEnd s r.a).2 = true then r else rfail r (rEnd s r.a).1 1) else rfail (if (rEnd s r.a).2 = true then r else rfail r (rEnd s r.a).1 1) r.a 5).bad,
    (if (rNum (s.extract r.a (rEnd s r.a).1)).2 = 0 then (if (rEnd s r.a).2 = true then r else rfail r (rEnd s r.a).1 1) else rfail (if (rEnd s r.a).2 = true then r else rfail r (rEnd s r.a).1 1) r.a 5).spot⟩)
/-- What a byte begins. -/
noncomputable def rone (rv : RS → JV × RS) (s : ByteArray) (r : RS) : JV × RS :=
  if pkv s r.a r.bad = 123 then robj rv s r else
  if pkv s r.a r.bad = 91 then rarr rv s r else
  if pkv s r.a r.bad = 34 then (.mk 3 false {} (rtext s r).1 [] [], (rtext s r).2) else
  if pkv s r.a r.bad = 110 then (vz, rwant s lNull r) else
  if pkv s r.a r.bad = 116 then (.mk 1 true {} e0 [] [], rwant s lTrue r) else
  if pkv s r.a r.bad = 102 then (.mk 1 false {} e0 [] [], rwant s lFalse r) else
  if pkv s r.a r.bad = 45 ∨ (48 ≤ pkv s r.a r.bad ∧ pkv s r.a r.bad ≤ 57) then rnumv s r else (vz, rfail r r.a 1)
noncomputable def rval : Nat → ByteArray → RS → JV × RS
  | 0, s, r => (vz, r)
  | n + 1, s, r => ((rone (rval n s) s (rblank s r)).1, rblank s (rone (rval n s) s (rblank s r)).2)
noncomputable def rpar (s : ByteArray) : JV × RS := rval (s.size + 2) s ⟨0, 0, 0, 0⟩
noncomputable def rparE (s : ByteArray) : RS := if (rpar s).2.bad = 0 ∧ (rpar s).2.a < s.size then rfail (rpar s).2 (rpar s).2.a 1 else (rpar s).2
noncomputable def rParse (s : ByteArray) : JV × Int × Int :=
  if 20000 < s.size then (vz, 5, 20000) else if (rparE s).bad = 0 then ((rpar s).1, 0, 0) else (vz, (rparE s).bad, (rparE s).spot)

/-! ### How far the reader comes -/
structure ROK (s : ByteArray) (r : RS) : Prop where
  a : r.a ≤ s.size + 1
  b : r.bad = 0 → r.a ≤ s.size
  d0 : 0 ≤ r.deep
  d1 : r.deep ≤ r.a
/-- From r on to r'. -/
structure RTo (s : ByteArray) (r r' : RS) : Prop where
  a : r.a ≤ r'.a
  ok : ROK s r'
  b : r'.bad = 0 → r.bad = 0
theorem RTo.refl {s : ByteArray} {r : RS} (h : ROK s r) : RTo s r r := ⟨Nat.le_refl _, h, id⟩
theorem RTo.trans {s : ByteArray} {r r' r'' : RS} (h : RTo s r r') (k : RTo s r' r'') : RTo s r r'' := ⟨Nat.le_trans h.a k.a, k.ok, fun e => h.b (k.b e)⟩
theorem rfail_bad {r : RS} {a b : Int} (hb : b ≠ 0) : (rfail r a b).bad ≠ 0 := by
  unfold rfail; dsimp only; split <;> assumption
theorem rfail_to {s : ByteArray} {r : RS} (h : ROK s r) {a b : Int} (hb : b ≠ 0) : RTo s r (rfail r a b) := by
  have hbad := rfail_bad (r := r) (a := a) hb
  exact ⟨Nat.le_refl _, ⟨h.a, fun e => absurd e hbad, h.d0, h.d1⟩, fun e => absurd e hbad⟩
theorem rblank_to {s : ByteArray} {r : RS} (h : ROK s r) : RTo s r (rblank s r) := by
  have h1 := blk_le s r.a
  have h2 := h.a; have h3 := h.d1
  by_cases hb : r.bad = 0
  · have h4 := h.b hb
    refine ⟨?_, ⟨?_, ?_, h.d0, ?_⟩, fun _ => hb⟩ <;> simp only [rblank, if_pos hb] <;> omega
  · refine ⟨?_, ⟨?_, ?_, h.d0, ?_⟩, id⟩ <;> simp only [rblank, if_neg hb] <;> omega
theorem rblank_deep (s : ByteArray) (r : RS) : (rblank s r).deep = r.deep := rfl
theorem ropen_to {s : ByteArray} {r : RS} (h : ROK s r) (hb : r.bad = 0) (ha : r.a < s.size) : RTo s r (ropen s r) ∧ r.a + 1 ≤ (ropen s r).a ∧ (ropen s r).deep = r.deep + 1 := by
  have h1 := blk_le s (r.a + 1)
  have h2 := h.d1; have h3 := h.d0
  by_cases hd : r.deep = 32
  · have e : ropen s r = ⟨r.a + 1, r.deep + 1, 3, r.a⟩ := by simp [ropen, hd, hb]
    rw [e]
    exact ⟨⟨by dsimp only; omega, ⟨by dsimp only; omega, fun e => absurd e (show ¬ (3 : Int) = 0 by decide), by dsimp only; omega, by dsimp only; omega⟩, fun e => absurd e (show ¬ (3 : Int) = 0 by decide)⟩, Nat.le_refl _, rfl⟩
  · have e : ropen s r = ⟨blk s (r.a + 1), r.deep + 1, 0, r.spot⟩ := by simp [ropen, hd, hb]
    rw [e]
    exact ⟨⟨by dsimp only; omega, ⟨by dsimp only; omega, fun _ => by dsimp only; omega, by dsimp only; omega, by dsimp only; omega⟩, fun _ => hb⟩, by dsimp only; omega, rfl⟩
theorem rinc_to {s : ByteArray} {r : RS} (h : ROK s r) (ha : 0 ≤ pkv s r.a r.bad) : RTo s r (rinc r) := by
  have h1 := pk_yes ha
  have h2 := h.d1
  exact ⟨by dsimp only [rinc]; omega, ⟨by dsimp only [rinc]; omega, fun _ => by dsimp only [rinc]; omega, h.d0, by dsimp only [rinc]; omega⟩, id⟩
theorem wstep_to {s : ByteArray} {c : UInt8} {r : RS} (h : ROK s r) (hb : r.bad = 0) : RTo s r (wstep s c r) ∧ (wstep s c r).deep = r.deep := by
  have h2 := h.d1; have h3 := h.b hb
  unfold wstep
  split
  · rename_i hp; exact ⟨rinc_to h (by omega), rfl⟩
  · have hbad := rfail_bad (r := r) (a := (r.a : Int)) (b := 1) (by decide)
    exact ⟨⟨by dsimp only [rinc, rfail]; omega, ⟨by dsimp only [rinc, rfail]; omega, fun e => absurd e hbad, h.d0, by dsimp only [rinc, rfail]; omega⟩, fun _ => hb⟩, rfl⟩
theorem wantF_to {s lit : ByteArray} : ∀ (k i : Nat) (r : RS), lit.size - i ≤ k → ROK s r → RTo s r (wantF s lit i r) ∧ (wantF s lit i r).deep = r.deep := by
  intro k
  induction k with
  | zero => intro i r hk h; rw [wantF, if_neg (by omega)]; exact ⟨.refl h, rfl⟩
  | succ k ih =>
    intro i r hk h
    rw [wantF]
    split
    · rename_i hc
      have h1 := wstep_to (s := s) (c := bat lit i) h hc.2
      have h2 := ih (i + 1) _ (by omega) h1.1.ok
      exact ⟨h1.1.trans h2.1, h2.2.trans h1.2⟩
    · exact ⟨.refl h, rfl⟩
theorem rwant_to {s lit : ByteArray} {r : RS} (h : ROK s r) : RTo s r (rwant s lit r) ∧ (rwant s lit r).deep = r.deep := wantF_to _ 0 r (Nat.le_refl _) h
/-- A bracket that is wanted is gone over. -/
theorem rwant1 {s lit : ByteArray} {r : RS} (h : ROK s r) (h1 : lit.size = 1) (hb : r.bad = 0) : r.a + 1 ≤ (rwant s lit r).a := by
  have e : rwant s lit r = wstep s (bat lit 0) r := by
    unfold rwant
    rw [wantF, if_pos ⟨by omega, hb⟩, wantF, if_neg (by omega)]
  rw [e]; unfold wstep; split <;> exact Nat.le_refl _
theorem rtext_to {s : ByteArray} {r : RS} (h : ROK s r) : RTo s r (rtext s r).2 ∧ (rtext s r).2.deep = r.deep ∧ Utf (rtext s r).1 ∧ r.a + (rtext s r).1.size ≤ (rtext s r).2.a := by
  have h2 := h.d1; have h4 := h.a
  unfold rtext
  split
  · rename_i hb
    have h3 := h.b hb
    rcases rUnq_ok s r.a with ⟨q1, q2, q3, q4, q5⟩ | ⟨q1, q2, q3⟩
    · exact ⟨⟨by dsimp only; omega, ⟨by dsimp only; omega, fun _ => by dsimp only; omega, h.d0, by dsimp only; omega⟩, fun _ => hb⟩, rfl, q4, by dsimp only; omega⟩
    · exact ⟨⟨by dsimp only; omega, ⟨by dsimp only; omega, fun e => by dsimp only at e; omega, h.d0, by dsimp only; omega⟩, fun _ => hb⟩, rfl, by dsimp only; rw [q3]; rfl, by dsimp only; rw [q3]; show r.a + 0 ≤ _; omega⟩
  · exact ⟨.refl h, rfl, rfl, Nat.le_refl _⟩
end Lg
namespace Lg
open Go
variable [GLay]
/-! ### What is read may be -/
theorem bytesLess_trans : ∀ (a b c : List UInt8), Op.bytesLess a b = true → Op.bytesLess b c = true → Op.bytesLess a c = true
  | [], [], _, h, _ => by simp [Op.bytesLess] at h
  | [], _ :: _, [], _, h => by simp [Op.bytesLess] at h
  | [], _ :: _, _ :: _, _, _ => by simp [Op.bytesLess]
  | _ :: _, [], _, h, _ => by simp [Op.bytesLess] at h
  | _ :: _, _ :: _, [], _, h => by simp [Op.bytesLess] at h
  | x :: a, y :: b, z :: c, h, k => by
    simp only [Op.bytesLess] at h k ⊢
    have ih := bytesLess_trans a b c
    have e1 : ∀ u v : UInt8, (u < v) = (u.toNat < v.toNat) := fun u v => by rw [UInt8.lt_iff_toNat_lt]
    have e2 : ∀ u v : UInt8, (u = v) = (u.toNat = v.toNat) := fun u v => by rw [UInt8.toNat_inj]
    simp only [e1, beq_iff_eq, e2, Bool.if_true_left, Bool.or_eq_true, decide_eq_true_eq, Bool.and_eq_true, Bool.if_false_right] at h k ⊢
    rcases h with h | h <;> rcases k with k | k
    · left; omega
    · left; omega
    · left; omega
    · right; exact ⟨by omega, ih h.2 k.2⟩
theorem blt_trans {a b c : ByteArray} (h : blt a b = true) (k : blt b c = true) : blt a c = true := bytesLess_trans _ _ _ h k
theorem vz_may : jmay vz := (jmay_eq vz).2 ⟨⟨by decide, by decide, by decide, zmay, zutf⟩, fun j q hj => absurd hj (by simp [vz, JV.m]), fun i x hx => by simp [vz, JV.l] at hx⟩
theorem may_b (b : Bool) : jmay (.mk 1 b {} e0 [] []) := (jmay_eq _).2 ⟨⟨by simp [JV.kind], by simp [JV.kind], by cases b <;> decide, zmay, zutf⟩, fun j q hj => absurd hj (by simp [JV.m]), fun i x hx => by simp [JV.l] at hx⟩
theorem may_s {t : ByteArray} (h : Utf t) : jmay (.mk 3 false {} t [] []) := (jmay_eq _).2 ⟨⟨by simp [JV.kind], by simp [JV.kind], by simp [jbare, JV.kind, JV.b, JV.n, JV.s, JV.l, JV.m, JNum.z], zmay, h⟩, fun j q hj => absurd hj (by simp [JV.m]), fun i x hx => by simp [JV.l] at hx⟩
theorem may_n {n : JNum} (h : NumMay n) : jmay (.mk 2 false n e0 [] []) := (jmay_eq _).2 ⟨⟨by simp [JV.kind], by simp [JV.kind], by simp [jbare, JV.kind, JV.b, JV.n, JV.s, JV.l, JV.m, e0], h, zutf⟩, fun j q hj => absurd hj (by simp [JV.m]), fun i x hx => by simp [JV.l] at hx⟩
theorem may_l {l : List JV} (h : lmay l) : jmay (.mk 4 false {} e0 l []) := (jmay_eq _).2 ⟨⟨by simp [JV.kind], by simp [JV.kind], by simp [jbare, JV.kind, JV.b, JV.n, JV.s, JV.l, JV.m, JNum.z, e0], zmay, zutf⟩, fun j q hj => absurd hj (by simp [JV.m]), fun i x hx => (lmay_iff l).1 h i x hx⟩
/-- Members that may be: their keys rise. -/
def MOK (m : List (ByteArray × JV)) : Prop := (∀ q ∈ m, Utf q.1 ∧ jmay q.2) ∧ m.Pairwise fun p q => blt p.1 q.1 = true
theorem MOK.mok {m : List (ByteArray × JV)} (h : MOK m) : mok m m.length := fun j q _ hq => by
  have hm := h.1 q (List.mem_of_getElem? hq)
  refine ⟨⟨hm.1, fun q' hj hq' => ?_⟩, hm.2⟩
  obtain ⟨h1, rfl⟩ := List.getElem?_eq_some_iff.1 hq
  obtain ⟨h2, rfl⟩ := List.getElem?_eq_some_iff.1 hq'
  exact List.pairwise_iff_getElem.1 h.2 (j - 1) j h2 h1 (by omega)
theorem may_m {m : List (ByteArray × JV)} (h : MOK m) : jmay (mkO m) := (jmay_eq _).2 ⟨⟨by simp [mkO, JV.kind], by simp [mkO, JV.kind], by simp [mkO, jbare, JV.kind, JV.b, JV.n, JV.s, JV.l, JV.m, JNum.z, e0], zmay, zutf⟩, h.mok, fun i x hx => by simp [mkO, JV.l] at hx⟩
theorem rins_nil (key : ByteArray) (x : JV) : rins [] key x = [(key, x)] := rfl
theorem rins_cons (q : ByteArray × JV) (m : List (ByteArray × JV)) (key : ByteArray) (x : JV) : rins (q :: m) key x = if blt q.1 key = true then q :: rins m key x else (key, x) :: q :: m := by
  unfold rins rinsK
  by_cases h : blt q.1 key = true
  · simp [List.takeWhile_cons, h]
  · simp [List.takeWhile_cons, h]
theorem rins_mem {m : List (ByteArray × JV)} {key : ByteArray} {x : JV} : ∀ q ∈ rins m key x, q ∈ m ∨ q = (key, x) := by
  induction m with
  | nil => intro q hq; rw [rins_nil] at hq; exact .inr (List.mem_singleton.1 hq)
  | cons p m ih =>
    intro q hq
    rw [rins_cons] at hq
    split at hq
    · rcases List.mem_cons.1 hq with rfl | h
      · exact .inl (List.mem_cons_self ..)
      · exact (ih q h).imp (List.mem_cons_of_mem _) id
    · rcases List.mem_cons.1 hq with rfl | h
      · exact .inr rfl
      · exact .inl h
theorem rins_pw {m : List (ByteArray × JV)} {key : ByteArray} {x : JV} (h : m.Pairwise fun p q => blt p.1 q.1 = true) (hk : ∀ q ∈ m, ¬ q.1 = key) : (rins m key x).Pairwise fun p q => blt p.1 q.1 = true := by
  induction m with
  | nil => rw [rins_nil]; exact List.pairwise_singleton _ _
  | cons p m ih =>
    rw [rins_cons]
    obtain ⟨h1, h2⟩ := List.pairwise_cons.1 h
    split
    · rename_i hl
      refine List.pairwise_cons.2 ⟨fun q hq => ?_, ih h2 fun q hq => hk q (List.mem_cons_of_mem _ hq)⟩
      rcases rins_mem q hq with h3 | rfl
      · exact h1 q h3
      · exact hl
    · rename_i hl
      have hlt : blt key p.1 = true := bytesLess_total _ _ (by simpa [blt] using hl) fun e => hk p (List.mem_cons_self ..) (by
        have := ba_beq p.1 key
        rw [e] at this; simpa using this)
      refine List.pairwise_cons.2 ⟨fun q hq => ?_, h⟩
      rcases List.mem_cons.1 hq with rfl | h3
      · exact hlt
      · exact blt_trans hlt (h1 q h3)
theorem MOK.ins {m : List (ByteArray × JV)} {key : ByteArray} {x : JV} (h : MOK m) (h1 : Utf key) (h2 : jmay x) (hk : ∀ q ∈ m, ¬ q.1 = key) : MOK (rins m key x) :=
  ⟨fun q hq => by
    rcases rins_mem q hq with h3 | rfl
    · exact h.1 q h3
    · exact ⟨h1, h2⟩, rins_pw h.2 hk⟩
theorem msize_ins (m : List (ByteArray × JV)) (key : ByteArray) (x : JV) : msize (rins m key x) = msize m + jsize x := by
  induction m with
  | nil => rw [rins_nil]; simp [msize]
  | cons p m ih =>
    obtain ⟨k, v⟩ := p
    rw [rins_cons]
    split
    · simp only [msize, ih]; omega
    · simp only [msize]; omega
theorem mb_ins {m : List (ByteArray × JV)} {key : ByteArray} {x : JV} (h : mb m) (h1 : key.size ≤ 1000000) (h2 : jb x) : mb (rins m key x) := by
  induction m with
  | nil => rw [rins_nil]; exact ⟨h1, h2, trivial⟩
  | cons p m ih =>
    obtain ⟨k, v⟩ := p
    rw [rins_cons]
    split
    · exact ⟨h.1, h.2.1, ih h.2.2⟩
    · exact ⟨h1, h2, h⟩
theorem lsize_snoc (l : List JV) (x : JV) : lsize (l ++ [x]) = lsize l + jsize x := by
  induction l with
  | nil => simp [lsize]
  | cons a l ih => simp only [List.cons_append, lsize, ih]; omega
theorem lcells_snoc (l : List JV) (x : JV) : (lcells (l ++ [x])).flatten = (lcells l).flatten ++ vcells x := by
  rw [lcells_eq, lcells_eq]; simp
theorem lflat_len (l : List JV) : (lcells l).flatten.length = l.length * 8 := by
  induction l with
  | nil => simp [lcells]
  | cons a l ih => simp only [lcells, List.flatten_cons, List.length_append, ih, vlen, List.length_cons]; omega
theorem ltL_append (n : Nat) (a b : List AV) : AV.ltL n (a ++ b) ↔ AV.ltL n a ∧ AV.ltL n b := by
  induction a with
  | nil => simp [AV.ltL]
  | cons x a ih => simp only [List.cons_append, AV.ltL, ih, and_assoc]
theorem lflat_lt (n : Nat) (l : List JV) : AV.ltL n (lcells l).flatten := by
  induction l with
  | nil => simp [lcells, AV.ltL]
  | cons a l ih => simp only [lcells, List.flatten_cons, ltL_append]; exact ⟨vcells_lt n a, ih⟩
theorem lrow_len (l : List JV) : ∀ r ∈ lcells l, r.length = 8 := fun r hr => by
  rw [lcells_eq] at hr
  obtain ⟨v, _, rfl⟩ := List.mem_map.1 hr
  exact vlen v
theorem lb_snoc {l : List JV} {x : JV} (h : lb l) (hx : jb x) : lb (l ++ [x]) := by
  induction l with
  | nil => exact ⟨hx, trivial⟩
  | cons a l ih => exact ⟨h.1, ih h.2⟩
theorem lmay_snoc {l : List JV} {x : JV} (h : lmay l) (hx : jmay x) : lmay (l ++ [x]) := by
  induction l with
  | nil => exact ⟨hx, trivial⟩
  | cons a l ih => exact ⟨h.1, ih h.2⟩
theorem jfind_none {m : List (ByteArray × JV)} {key : ByteArray} (h : jfind (mkO m) key = none) : ∀ q ∈ m, ¬ q.1 = key := fun q hq e => by
  have h' : (m.find? fun q => decide (q.1 = key)) = none := by
    unfold jfind at h
    rw [if_pos (show (mkO m).kind = 5 from rfl)] at h
    simpa [mkO, JV.m] using h
  have := List.find?_eq_none.1 h' q hq
  simp [e] at this
/-- What a value's reading comes to. -/
structure VR (s : ByteArray) (r : RS) (x : JV × RS) : Prop where
  fwd : RTo s r x.2
  deep : x.2.deep = r.deep
  jb : jb x.1
  size : jsize x.1 ≤ (x.2.a : Int) - r.a + 1
  may : x.2.bad = 0 → jmay x.1
section
variable {rv : RS → JV × RS} {s : ByteArray} (hs : s.size ≤ 100000) (hrv : ∀ r, ROK s r → VR s r (rv r))
include hrv
theorem rarrF_ok : ∀ (k : Nat) (l : List JV) (r : RS), ROK s r → lb l → (r.bad = 0 → lmay l) →
    RTo s r (rarrF rv s k l r).2 ∧ (rarrF rv s k l r).2.deep = r.deep ∧ lb (rarrF rv s k l r).1 ∧ lsize (rarrF rv s k l r).1 ≤ lsize l + ((rarrF rv s k l r).2.a : Int) - r.a + 1 ∧ ((rarrF rv s k l r).2.bad = 0 → lmay (rarrF rv s k l r).1) := by
  intro k
  induction k with
  | zero => intro l r h h1 h2; exact ⟨.refl h, rfl, h1, by dsimp only [rarrF]; omega, h2⟩
  | succ k ih =>
    intro l r h h1 h2
    rw [rarrF]
    have hv := hrv r h
    split
    · split
      · rename_i hp
        have hi := rinc_to hv.fwd.ok (by omega)
        obtain ⟨q1, q2, q3, q4, q5⟩ := ih (l ++ [(rv r).1]) (rinc (rv r).2) hi.ok (lb_snoc h1 hv.jb) (fun e => lmay_snoc (h2 (hv.fwd.b e)) (hv.may e))
        refine ⟨hv.fwd.trans (hi.trans q1), q2.trans hv.deep, q3, ?_, q5⟩
        rw [lsize_snoc] at q4
        have := hv.size
        have h5 : (rinc (rv r).2).a = (rv r).2.a + 1 := rfl
        omega
      · refine ⟨hv.fwd, hv.deep, lb_snoc h1 hv.jb, ?_, fun e => lmay_snoc (h2 (hv.fwd.b e)) (hv.may e)⟩
        rw [lsize_snoc]; have := hv.size; dsimp only; omega
    · exact ⟨.refl h, rfl, h1, by dsimp only; omega, h2⟩
include hs
theorem rarr_ok {r : RS} (h : ROK s r) (hb : r.bad = 0) (ha : r.a < s.size) : VR s r (rarr rv s r) := by
  obtain ⟨o1, o2, o3⟩ := ropen_to h hb ha
  obtain ⟨q1, q2, q3, q4, q5⟩ := rarrF_ok hrv (s.size + 2) [] (ropen s r) o1.ok trivial (fun _ => trivial)
  obtain ⟨w1, w2⟩ := rwant_to (lit := rb1) q1.ok
  unfold rarr
  have hll := llen_le (rarrF rv s (s.size + 2) [] (ropen s r)).1
  have e0l : lsize [] = 0 := rfl
  have ha1 := w1.ok.a; have ha2 := w1.a
  have hd := h.d0; have hd1 := h.d1
  refine ⟨⟨?_, ⟨ha1, w1.ok.b, ?_, ?_⟩, fun e => o1.b (q1.b (w1.b e))⟩, ?_, ?_, ?_, fun e => may_l (q5 (w1.b e))⟩
  · have := q1.a; dsimp only [rdec]; omega
  · dsimp only [rdec]; omega
  · have := w1.ok.d1; dsimp only [rdec]; omega
  · dsimp only [rdec]; omega
  · rw [jb_eq]; simp only [JV.n, JV.s, JV.l, JV.m, mb, and_true]
    exact ⟨Nat.zero_le _, Nat.zero_le _, by omega, Nat.zero_le _, q3⟩
  · simp only [jsize, msize, rdec]; omega
omit hs in
theorem rkey_ok {m : List (ByteArray × JV)} {r : RS} (h : ROK s r) : RTo s r (rkey s m r).2 ∧ (rkey s m r).2.deep = r.deep ∧ (rkey s m r).1.size + r.a ≤ (rkey s m r).2.a ∧ Utf (rkey s m r).1 ∧ ((rkey s m r).2.bad = 0 → ∀ q ∈ m, ¬ q.1 = (rkey s m r).1) := by
  have b1 := rblank_to h
  obtain ⟨t1, t2, t3, t4⟩ := rtext_to b1.ok
  have hb1 := b1.a
  unfold rkey rk2
  by_cases hf : (jfind (mkO m) (rtext s (rblank s r)).1).isSome = true
  · simp only [if_pos hf]
    have f1 := rfail_to (a := (rblank s r).a) (b := 4) t1.ok (by decide)
    have b2 := rblank_to f1.ok
    obtain ⟨w1, w2⟩ := rwant_to (lit := rb3) b2.ok
    refine ⟨b1.trans (t1.trans (f1.trans (b2.trans w1))), w2.trans t2, ?_, t3, fun e => absurd (b2.b (w1.b e)) (rfail_bad (by decide))⟩
    have := w1.a; have := b2.a; have := f1.a; omega
  · simp only [if_neg hf]
    have b2 := rblank_to t1.ok
    obtain ⟨w1, w2⟩ := rwant_to (lit := rb3) b2.ok
    refine ⟨b1.trans (t1.trans (b2.trans w1)), w2.trans t2, ?_, t3, fun _ => jfind_none (by simpa using hf)⟩
    have := w1.a; have := b2.a; omega
omit hs hrv in
theorem rk2_ok {m : List (ByteArray × JV)} {r : RS} (h : ROK s r) : RTo s r (rk2 s m r) ∧ (rk2 s m r).deep = r.deep := by
  have b1 := rblank_to h
  obtain ⟨t1, t2, t3, t4⟩ := rtext_to b1.ok
  unfold rk2
  split
  · exact ⟨b1.trans (t1.trans (rfail_to t1.ok (by decide))), t2⟩
  · exact ⟨b1.trans t1, t2⟩
include hs
theorem robjF_ok : ∀ (k : Nat) (m : List (ByteArray × JV)) (r : RS), ROK s r → mb m → (r.bad = 0 → MOK m) →
    RTo s r (robjF rv s k m r).2 ∧ (robjF rv s k m r).2.deep = r.deep ∧ mb (robjF rv s k m r).1 ∧ msize (robjF rv s k m r).1 ≤ msize m + ((robjF rv s k m r).2.a : Int) - r.a + 1 ∧ ((robjF rv s k m r).2.bad = 0 → MOK (robjF rv s k m r).1) := by
  intro k
  induction k with
  | zero => intro m r h h1 h2; exact ⟨.refl h, rfl, h1, by dsimp only [robjF]; omega, h2⟩
  | succ k ih =>
    intro m r h h1 h2
    rw [robjF]
    obtain ⟨k1, k2, k3, k4, k5⟩ := rkey_ok hrv (m := m) h
    have hv := hrv _ k1.ok
    have hk1 := k1.a; have hk6 := k1.ok.a
    have hins : (rv (rkey s m r).2).2.bad = 0 → MOK (rins m (rkey s m r).1 (rv (rkey s m r).2).1) := fun e => (h2 (k1.b (hv.fwd.b e))).ins k4 (hv.may e) (k5 (hv.fwd.b e))
    split
    · split
      · rename_i hp
        have hi := rinc_to hv.fwd.ok (by omega)
        obtain ⟨q1, q2, q3, q4, q5⟩ := ih (rins m (rkey s m r).1 (rv (rkey s m r).2).1) (rinc (rv (rkey s m r).2).2) hi.ok (mb_ins h1 (by omega) hv.jb) hins
        refine ⟨k1.trans (hv.fwd.trans (hi.trans q1)), q2.trans (hv.deep.trans k2), q3, ?_, q5⟩
        rw [msize_ins] at q4
        have := hv.size
        have h5 : (rinc (rv (rkey s m r).2).2).a = (rv (rkey s m r).2).2.a + 1 := rfl
        omega
      · refine ⟨k1.trans hv.fwd, hv.deep.trans k2, mb_ins h1 (by omega) hv.jb, ?_, hins⟩
        rw [msize_ins]; have := hv.size; dsimp only; omega
    · exact ⟨.refl h, rfl, h1, by dsimp only; omega, h2⟩
theorem robj_ok {r : RS} (h : ROK s r) (hb : r.bad = 0) (ha : r.a < s.size) : VR s r (robj rv s r) := by
  obtain ⟨o1, o2, o3⟩ := ropen_to h hb ha
  obtain ⟨q1, q2, q3, q4, q5⟩ := robjF_ok hs hrv (s.size + 2) [] (ropen s r) o1.ok trivial (fun _ => ⟨fun q hq => by simp at hq, List.Pairwise.nil⟩)
  obtain ⟨w1, w2⟩ := rwant_to (lit := rb2) q1.ok
  unfold robj
  have hll := mlen_le (robjF rv s (s.size + 2) [] (ropen s r)).1
  have e0l : msize [] = 0 := rfl
  have ha1 := w1.ok.a; have ha2 := w1.a
  have hd := h.d0; have hd1 := h.d1
  refine ⟨⟨?_, ⟨ha1, w1.ok.b, ?_, ?_⟩, fun e => o1.b (q1.b (w1.b e))⟩, ?_, ?_, ?_, fun e => may_m (q5 (w1.b e))⟩
  · have := q1.a; dsimp only [rdec]; omega
  · dsimp only [rdec]; omega
  · have := w1.ok.d1; dsimp only [rdec]; omega
  · dsimp only [rdec]; omega
  · rw [jb_eq]; simp only [mkO, JV.n, JV.s, JV.l, JV.m, lb, true_and]
    exact ⟨Nat.zero_le _, Nat.zero_le _, Nat.zero_le _, by omega, q3⟩
  · simp only [mkO, jsize, lsize, rdec]; omega
theorem rnumv_ok {r : RS} (h : ROK s r) (hb : r.bad = 0) (ha : r.a < s.size) : VR s r (rnumv s r) := by
  have he := rEnd_le (s := s) (a := r.a) (by omega)
  have hm := rNum_may (s.extract r.a (rEnd s r.a).1)
  have h3 := h.d1; have h0 := h.d0
  unfold rnumv
  refine ⟨⟨he.1, ⟨by dsimp only; omega, fun _ => he.2, h0, by dsimp only; omega⟩, fun _ => hb⟩, rfl, ?_, ?_, fun _ => may_n hm⟩
  · exact jb_nil _ _ _ _ (by have := hm.size; omega) (Nat.zero_le _)
  · simp only [jsize_nil]; omega
theorem rone_ok {r : RS} (h : ROK s r) : VR s r (rone rv s r) := by
  have hz : ∀ {r' : RS} {v : JV}, RTo s r r' → r'.deep = r.deep → jsize v = 1 → jb v → jmay v → VR s r (v, r') := fun h1 h2 h3 h4 h5 => ⟨h1, h2, h4, by have := h1.a; dsimp only; omega, fun _ => h5⟩
  have h0 : jb vz := jb_nil _ _ _ _ (Nat.zero_le _) (Nat.zero_le _)
  unfold rone
  split
  · rename_i hp; have := pk_yes (s := s) (a := r.a) (bad := r.bad) (by omega); exact robj_ok hs hrv h this.1 this.2.1
  split
  · rename_i hp; have := pk_yes (s := s) (a := r.a) (bad := r.bad) (by omega); exact rarr_ok hs hrv h this.1 this.2.1
  split
  · obtain ⟨t1, t2, t3, t4⟩ := rtext_to h
    exact hz t1 t2 (jsize_nil _ _ _ _) (jb_nil _ _ _ _ (Nat.zero_le _) (by have := t1.ok.a; omega)) (may_s t3)
  split
  · exact hz (rwant_to h).1 (rwant_to h).2 (jsize_nil _ _ _ _) h0 vz_may
  split
  · exact hz (rwant_to h).1 (rwant_to h).2 (jsize_nil _ _ _ _) (jb_nil _ _ _ _ (Nat.zero_le _) (Nat.zero_le _)) (may_b true)
  split
  · exact hz (rwant_to h).1 (rwant_to h).2 (jsize_nil _ _ _ _) (jb_nil _ _ _ _ (Nat.zero_le _) (Nat.zero_le _)) (may_b false)
  split
  · rename_i hp; have := pk_yes (s := s) (a := r.a) (bad := r.bad) (by omega); exact rnumv_ok hs hrv h this.1 this.2.1
  · exact hz (rfail_to h (by decide)) rfl (jsize_nil _ _ _ _) h0 vz_may
end
theorem rval_ok {s : ByteArray} (hs : s.size ≤ 100000) : ∀ (n : Nat) (r : RS), ROK s r → VR s r (rval n s r) := by
  intro n
  induction n with
  | zero => intro r h; exact ⟨.refl h, rfl, jb_nil _ _ _ _ (Nat.zero_le _) (Nat.zero_le _), by simp only [rval, vz, jsize_nil]; omega, fun _ => vz_may⟩
  | succ n ih =>
    intro r h
    have b1 := rblank_to h
    have hv := rone_ok hs ih b1.ok
    have b2 := rblank_to hv.fwd.ok
    rw [rval]
    exact ⟨b1.trans (hv.fwd.trans b2), hv.deep, hv.jb, by have := hv.size; have := b1.a; have := b2.a; dsimp only; omega, fun e => hv.may (b2.b e)⟩
/-- What a text's reading comes to. -/
theorem rParse_ok (s : ByteArray) (h : (rParse s).2.1 = 0) : jmay (rParse s).1 ∧ jb (rParse s).1 ∧ jsize (rParse s).1 ≤ s.size + 2 ∧ s.size ≤ 20000 := by
  unfold rParse at h ⊢
  split at h
  · cases h
  · rename_i hs
    split at h
    · rename_i hb
      rw [if_neg hs, if_pos hb]
      have h0 : ROK s ⟨0, 0, 0, 0⟩ := ⟨Nat.zero_le _, fun _ => Nat.zero_le _, Int.le_refl _, Int.le_refl _⟩
      have hv : VR s ⟨0, 0, 0, 0⟩ (rpar s) := rval_ok (by omega) (s.size + 2) ⟨0, 0, 0, 0⟩ h0
      have hb2 : (rpar s).2.bad = 0 := by
        unfold rparE at hb
        split at hb
        · exact absurd hb (rfail_bad (by decide))
        · exact hb
      exact ⟨hv.may hb2, hv.jb, by have := hv.size; have := hv.fwd.ok.a; dsimp only at *; omega, by omega⟩
    · rename_i hb; exact absurd h hb
/-- What a law takes for a text's value. -/
noncomputable def rValue (s : ByteArray) : JV × Int := if 2000 < s.size then (vz, 0) else if (rParse s).2.1 = 0 then ((rParse s).1, 1) else (vz, 0)
theorem rValue_ok (s : ByteArray) : (rValue s).2 = 0 ∧ (rValue s).1 = vz ∨ (rValue s).2 = 1 ∧ jmay (rValue s).1 ∧ jb (rValue s).1 ∧ jsize (rValue s).1 ≤ 2002 := by
  unfold rValue
  split
  · exact .inl ⟨rfl, rfl⟩
  split
  · rename_i h1 h2
    have := rParse_ok s h2
    exact .inr ⟨rfl, this.1, this.2.1, by have := this.2.2.1; dsimp only; omega⟩
  · exact .inl ⟨rfl, rfl⟩
end Lg
