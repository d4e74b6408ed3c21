/- A part of the proof of StrTells: the text that stands in quotes at any place of any bytes, or what is amiss, where; any text in quotes: W14 W15. -/
import Derived.Test.YtiihpckdafldkaaDoorP4
import Derived.Test.YtiihpckdafldkaaDoorP5
import Derived.Test.YtiihpckdafldkaaDoorProg
set_option linter.unusedVariables false
set_option linter.unusedSimpArgs false
set_option linter.unusedSectionVars false
set_option maxRecDepth 20000
set_option maxHeartbeats 4000000
namespace Lg
open Go Go.Proofs Go.RowKit
variable [GLay] 


theorem run_n (s : ByteArray) (a : Nat) (σ : List AO) (hs : s.size ≤ 1000000) (ha : a ≤ 1000000) : ACalls Tryd.prog 51 [.str s, .int .i64 (a : Int)] σ (Ret (.int .i64 (runl s a : Int)) σ) := by
  have := run_c s (a : Int) σ (by omega) (by omega) (by omega)
  simpa using this
theorem end_c (s : ByteArray) (a : Nat) (σ : List AO) (hs : s.size ≤ 1000000) (ha : a ≤ s.size) : ACalls Tryd.prog 64 [.str s, .int .i64 (a : Int)] σ (Ret (.tup [.int .i64 ((rEnd s a).1 : Int), .bool (rEnd s a).2]) σ) := by
  refine ACalls_body Tryd.func64 rfl Tryd.ntmps64 (res2 Tryd.results64) (Nat.le_of_ble_eq_true rfl) (fun hcl hal => ?_)
  have hi1 := eSign_le ha
  have hr1 := runl_le s (eSign s a)
  refine AWp_seq ?_
  -- region 0 ref.go:16
  refine AWp_regL ?_
  refine st rfl rfl rfl (op_assignO rfl rfl) ?_
  refine st rfl rfl rfl (op_assignO rfl rfl) ?_
  refine AOps_nil ?_
  refine AWp_seq ?_
  -- region 1 ref.go:17
  refine AWp_regL ?_
  refine st rfl rfl rfl (op_moveO rfl rfl) ?_
  refine st rfl rfl rfl (op_assignO rfl rfl) ?_
  refine AOps_nil ?_
  refine AWp_join (ι := Unit) (fun b => True) (fun b => ⟨[], [(0, .str s), (6, .int .i64 (eSign s a : Int))]⟩) (fun b => σ) ?_ (fun b hj => ?_)
  · skip
    refine AWp_seq ?_
    -- region 2 ref.go:18
    refine AWp_regL ?_
    refine st rfl rfl rfl (op_moveO rfl rfl) ?_
    refine st rfl rfl rfl (op_moveO rfl rfl) ?_
    refine st rfl rfl rfl (op_lenStr rfl rfl Tryd.underlying9 rfl) ?_
    refine st rfl rfl rfl (op_lss rfl rfl rfl) ?_
    refine st rfl rfl rfl (op_moveO rfl rfl) ?_
    refine AOps_split 13 rfl (fun h1 => ?_) (fun h1 => ?_)
    · rw [h1]; (try simp only [decide_eq_true_eq, decide_eq_false_iff_not, Bool.not_eq_true', Bool.not_eq_false', Int.not_lt, Int.not_le, Bool.not_true, Bool.not_false, Int.toNat_natCast, tn1, tn2, tnn, bne_iff_ne, beq_iff_eq, beq_eq_false_iff_ne, ne_eq, Decidable.not_not] at h1)
      refine stG rfl rfl rfl rfl rfl rfl (op_moveO rfl rfl) ?_
      refine stG rfl rfl rfl rfl rfl rfl (op_moveO rfl rfl) ?_
      refine stG rfl rfl rfl rfl rfl rfl (op_index_strB rfl Tryd.underlying9 rfl rfl (by omega) (by omega)) ?_
      refine stG rfl rfl rfl rfl rfl rfl (op_eql rfl rfl rfl) ?_
      refine st rfl rfl rfl (op_pickTO rfl rfl rfl) ?_
      refine AOps_nil ?_
      refine AWp_cond rfl (fun h2 => ?_) (fun h2 => ?_)
      · (try rw [h2]); (try simp only [decide_eq_true_eq, decide_eq_false_iff_not, Bool.not_eq_true', Bool.not_eq_false', Int.not_lt, Int.not_le, Bool.not_true, Bool.not_false, Int.toNat_natCast, tn1, tn2, tnn, bne_iff_ne, beq_iff_eq, beq_eq_false_iff_ne, ne_eq, Decidable.not_not] at h2)
        -- region 3 ref.go:19
        refine AWp_regL ?_
        refine st rfl rfl rfl (op_moveO rfl rfl) ?_
        refine st rfl rfl rfl (op_add64 rfl rfl rfl (by omega) (by omega)) ?_
        refine st rfl rfl rfl (op_assignO rfl rfl) ?_
        refine AOps_nil ?_
        refine ⟨(), trivial, ⟨rfl, rfl, ?_, trivial⟩, rfl⟩
        unfold eSign; first | (rw [if_pos (by omega)]; rfl) | (rw [if_neg (by omega)]; rfl)
      · (try rw [h2]); (try simp only [decide_eq_true_eq, decide_eq_false_iff_not, Bool.not_eq_true', Bool.not_eq_false', Int.not_lt, Int.not_le, Bool.not_true, Bool.not_false, Int.toNat_natCast, tn1, tn2, tnn, bne_iff_ne, beq_iff_eq, beq_eq_false_iff_ne, ne_eq, Decidable.not_not] at h2)
        refine AWp_skip ?_
        refine ⟨(), trivial, ⟨rfl, rfl, ?_, trivial⟩, rfl⟩
        unfold eSign; first | (rw [if_pos (by omega)]; rfl) | (rw [if_neg (by omega)]; rfl)
    · rw [h1]; (try simp only [decide_eq_true_eq, decide_eq_false_iff_not, Bool.not_eq_true', Bool.not_eq_false', Int.not_lt, Int.not_le, Bool.not_true, Bool.not_false, Int.toNat_natCast, tn1, tn2, tnn, bne_iff_ne, beq_iff_eq, beq_eq_false_iff_ne, ne_eq, Decidable.not_not] at h1)
      refine stS rfl rfl rfl (.inl rfl) rfl rfl ?_
      refine stS rfl rfl rfl (.inl rfl) rfl rfl ?_
      refine stS rfl rfl rfl (.inl rfl) rfl rfl ?_
      refine stS rfl rfl rfl (.inl rfl) rfl rfl ?_
      refine st rfl rfl rfl (op_pickFO rfl rfl rfl) ?_
      refine AOps_nil ?_
      refine AWp_condF rfl ?_
      refine AWp_skip ?_
      refine ⟨(), trivial, ⟨rfl, rfl, ?_, trivial⟩, rfl⟩
      unfold eSign; first | (rw [if_pos (by omega)]; rfl) | (rw [if_neg (by omega)]; rfl)
  · skip
    refine AWp_seq ?_
    -- region 4 ref.go:21
    refine AWp_regL ?_
    refine st rfl rfl rfl (op_moveO rfl rfl) ?_
    refine st rfl rfl rfl (op_moveO rfl rfl) ?_
    refine st rfl rfl rfl (op_callF rfl rfl rfl Tryd.func51 rfl rfl (run_n s (eSign s a) _ hs (by omega))) ?_
    refine st rfl rfl rfl (op_assignO rfl rfl) ?_
    refine AOps_nil ?_
    refine AWp_seq ?_
    refine AWp_seq ?_
    -- region 5 ref.go:22
    refine AWp_regL ?_
    refine st rfl rfl rfl (op_moveO rfl rfl) ?_
    refine st rfl rfl rfl (op_eql rfl rfl rfl) ?_
    refine AOps_nil ?_
    refine AWp_cond rfl (fun h3 => ?_) (fun h3 => ?_)
    · (try rw [h3]); (try simp only [decide_eq_true_eq, decide_eq_false_iff_not, Bool.not_eq_true', Bool.not_eq_false', Int.not_lt, Int.not_le, Bool.not_true, Bool.not_false, Int.toNat_natCast, tn1, tn2, tnn, bne_iff_ne, beq_iff_eq, beq_eq_false_iff_ne, ne_eq, Decidable.not_not] at h3)
      refine AWp_seq ?_
      -- region 6 ref.go:23
      refine AWp_regL ?_
      refine st rfl rfl rfl (op_moveO rfl rfl) ?_
      refine st rfl rfl rfl (op_assignO rfl rfl) ?_
      refine st rfl rfl rfl (op_assignO rfl rfl) ?_
      refine AOps_nil ?_
      refine AWp_ret ?_
      (try simp only [blockQ, thenQ])
      have hE : rEnd s a = (eSign s a, false) := by unfold rEnd; rw [if_pos (by omega)]
      rw [hE]; exact ResQ_20 rfl rfl hcl (by simp [AV.lt, AV.ltL]) (Ret_of rfl)
    · (try rw [h3]); (try simp only [decide_eq_true_eq, decide_eq_false_iff_not, Bool.not_eq_true', Bool.not_eq_false', Int.not_lt, Int.not_le, Bool.not_true, Bool.not_false, Int.toNat_natCast, tn1, tn2, tnn, bne_iff_ne, beq_iff_eq, beq_eq_false_iff_ne, ne_eq, Decidable.not_not] at h3)
      refine AWp_skip ?_
      refine AWp_join (ι := Unit) (fun b => True) (fun b => ⟨[], [(0, .str s), (6, .int .i64 (eSign s a : Int)), (7, .int .i64 (eInt s (eSign s a) : Int))]⟩) (fun b => σ) ?_ (fun b hj => ?_)
      · skip
        refine AWp_seq ?_
        -- region 7 ref.go:25
        refine AWp_regL ?_
        refine st rfl rfl rfl (op_moveO rfl rfl) ?_
        refine st rfl rfl rfl (op_moveO rfl rfl) ?_
        refine st rfl rfl rfl (op_index_strB rfl Tryd.underlying9 rfl rfl (by omega) (by omega)) ?_
        refine st rfl rfl rfl (op_eql rfl rfl rfl) ?_
        refine AOps_nil ?_
        refine AWp_cond rfl (fun h4 => ?_) (fun h4 => ?_)
        · (try rw [h4]); (try simp only [decide_eq_true_eq, decide_eq_false_iff_not, Bool.not_eq_true', Bool.not_eq_false', Int.not_lt, Int.not_le, Bool.not_true, Bool.not_false, Int.toNat_natCast, tn1, tn2, tnn, bne_iff_ne, beq_iff_eq, beq_eq_false_iff_ne, ne_eq, Decidable.not_not] at h4)
          -- region 8 ref.go:26
          refine AWp_regL ?_
          refine st rfl rfl rfl (op_assignO rfl rfl) ?_
          refine AOps_nil ?_
          refine ⟨(), trivial, ⟨rfl, rfl, rfl, ?_, trivial⟩, rfl⟩
          unfold eInt; first | (rw [if_pos (by omega)]; rfl) | (rw [if_neg (by omega)]; rfl)
        · (try rw [h4]); (try simp only [decide_eq_true_eq, decide_eq_false_iff_not, Bool.not_eq_true', Bool.not_eq_false', Int.not_lt, Int.not_le, Bool.not_true, Bool.not_false, Int.toNat_natCast, tn1, tn2, tnn, bne_iff_ne, beq_iff_eq, beq_eq_false_iff_ne, ne_eq, Decidable.not_not] at h4)
          refine AWp_skip ?_
          refine ⟨(), trivial, ⟨rfl, rfl, rfl, ?_, trivial⟩, rfl⟩
          unfold eInt; first | (rw [if_pos (by omega)]; rfl) | (rw [if_neg (by omega)]; rfl)
      · skip
        have hi2 := eInt_le hi1.2 (by omega)
        have hE : rEnd s a = eFrac s (eSign s a + eInt s (eSign s a)) := by unfold rEnd; rw [if_neg (by omega)]
        generalize hk : (eSign s a + eInt s (eSign s a)) = k at hE
        have hr2 := runl_le s (k + 1)
        refine AWp_seq ?_
        -- region 9 ref.go:28
        refine AWp_regL ?_
        refine st rfl rfl rfl (op_moveO rfl rfl) ?_
        refine st rfl rfl rfl (op_moveO rfl rfl) ?_
        refine st rfl rfl rfl (op_add64 rfl rfl rfl (by omega) (by omega)) ?_
        rw [← Int.natCast_add, hk]
        refine st rfl rfl rfl (op_assignO rfl rfl) ?_
        refine AOps_nil ?_
        refine AWp_join (ι := Nat) (fun j => rEnd s a = ePow s j ∧ j ≤ s.size) (fun j => ⟨[], [(0, .str s), (6, .int .i64 (j : Int))]⟩) (fun j => σ) ?_ (fun j hj => ?_)
        · skip
          refine AWp_seq ?_
          -- region 10 ref.go:29
          refine AWp_regL ?_
          refine st rfl rfl rfl (op_moveO rfl rfl) ?_
          refine st rfl rfl rfl (op_moveO rfl rfl) ?_
          refine st rfl rfl rfl (op_lenStr rfl rfl Tryd.underlying9 rfl) ?_
          refine st rfl rfl rfl (op_lss rfl rfl rfl) ?_
          refine st rfl rfl rfl (op_moveO rfl rfl) ?_
          refine AOps_split 38 rfl (fun h5 => ?_) (fun h5 => ?_)
          · rw [h5]; (try simp only [decide_eq_true_eq, decide_eq_false_iff_not, Bool.not_eq_true', Bool.not_eq_false', Int.not_lt, Int.not_le, Bool.not_true, Bool.not_false, Int.toNat_natCast, tn1, tn2, tnn, bne_iff_ne, beq_iff_eq, beq_eq_false_iff_ne, ne_eq, Decidable.not_not] at h5)
            refine stG rfl rfl rfl rfl rfl rfl (op_moveO rfl rfl) ?_
            refine stG rfl rfl rfl rfl rfl rfl (op_moveO rfl rfl) ?_
            refine stG rfl rfl rfl rfl rfl rfl (op_index_strB rfl Tryd.underlying9 rfl rfl (by omega) (by omega)) ?_
            refine stG rfl rfl rfl rfl rfl rfl (op_eql rfl rfl rfl) ?_
            refine st rfl rfl rfl (op_pickTO rfl rfl rfl) ?_
            refine AOps_nil ?_
            refine AWp_cond rfl (fun h6 => ?_) (fun h6 => ?_)
            · (try rw [h6]); (try simp only [decide_eq_true_eq, decide_eq_false_iff_not, Bool.not_eq_true', Bool.not_eq_false', Int.not_lt, Int.not_le, Bool.not_true, Bool.not_false, Int.toNat_natCast, tn1, tn2, tnn, bne_iff_ne, beq_iff_eq, beq_eq_false_iff_ne, ne_eq, Decidable.not_not] at h6)
              refine AWp_seq ?_
              -- region 11 ref.go:30
              refine AWp_regL ?_
              refine st rfl rfl rfl (op_moveO rfl rfl) ?_
              refine st rfl rfl rfl (op_moveO rfl rfl) ?_
              refine st rfl rfl rfl (op_add64 rfl rfl rfl (by omega) (by omega)) ?_
              refine st rfl rfl rfl (op_callF rfl rfl rfl Tryd.func51 rfl rfl (run_n s (k + 1) _ hs (by omega))) ?_
              refine st rfl rfl rfl (op_assignO rfl rfl) ?_
              refine AOps_nil ?_
              refine AWp_seq ?_
              -- region 12 ref.go:31
              refine AWp_regL ?_
              refine st rfl rfl rfl (op_moveO rfl rfl) ?_
              refine st rfl rfl rfl (op_add64 rfl rfl rfl (by omega) (by omega)) ?_
              refine st rfl rfl rfl (op_moveO rfl rfl) ?_
              refine st rfl rfl rfl (op_add64 rfl rfl rfl (by omega) (by omega)) ?_
              refine st rfl rfl rfl (op_assignO rfl rfl) ?_
              refine AOps_nil ?_
              refine AWp_seq ?_
              -- region 13 ref.go:32
              refine AWp_regL ?_
              refine st rfl rfl rfl (op_moveO rfl rfl) ?_
              refine st rfl rfl rfl (op_eql rfl rfl rfl) ?_
              refine AOps_nil ?_
              refine AWp_cond rfl (fun h7 => ?_) (fun h7 => ?_)
              · (try rw [h7]); (try simp only [decide_eq_true_eq, decide_eq_false_iff_not, Bool.not_eq_true', Bool.not_eq_false', Int.not_lt, Int.not_le, Bool.not_true, Bool.not_false, Int.toNat_natCast, tn1, tn2, tnn, bne_iff_ne, beq_iff_eq, beq_eq_false_iff_ne, ne_eq, Decidable.not_not] at h7)
                refine AWp_seq ?_
                -- region 14 ref.go:33
                refine AWp_regL ?_
                refine st rfl rfl rfl (op_moveO rfl rfl) ?_
                refine st rfl rfl rfl (op_assignO rfl rfl) ?_
                refine st rfl rfl rfl (op_assignO rfl rfl) ?_
                refine AOps_nil ?_
                refine AWp_ret ?_
                (try simp only [blockQ, thenQ])
                have hE : rEnd s a = (k + 1, false) := by rw [hE]; unfold eFrac; rw [if_pos (by omega), if_pos (by omega)]
                rw [hE]; refine ResQ_20 rfl rfl hcl (by simp [AV.lt, AV.ltL]) (Ret_of ?_)
                congr 3; dsimp only; omega
              · (try rw [h7]); (try simp only [decide_eq_true_eq, decide_eq_false_iff_not, Bool.not_eq_true', Bool.not_eq_false', Int.not_lt, Int.not_le, Bool.not_true, Bool.not_false, Int.toNat_natCast, tn1, tn2, tnn, bne_iff_ne, beq_iff_eq, beq_eq_false_iff_ne, ne_eq, Decidable.not_not] at h7)
                refine AWp_skip ?_
                first | refine ⟨k + 1 + runl s (k + 1), ⟨by rw [hE]; unfold eFrac; rw [if_pos (by omega), if_neg (by omega)], by omega⟩, ⟨rfl, rfl, rfl, trivial⟩, rfl⟩ | refine ⟨k, ⟨by rw [hE]; unfold eFrac; rw [if_neg (by omega)], by omega⟩, ⟨rfl, rfl, rfl, trivial⟩, rfl⟩
            · (try rw [h6]); (try simp only [decide_eq_true_eq, decide_eq_false_iff_not, Bool.not_eq_true', Bool.not_eq_false', Int.not_lt, Int.not_le, Bool.not_true, Bool.not_false, Int.toNat_natCast, tn1, tn2, tnn, bne_iff_ne, beq_iff_eq, beq_eq_false_iff_ne, ne_eq, Decidable.not_not] at h6)
              refine AWp_skip ?_
              first | refine ⟨k + 1 + runl s (k + 1), ⟨by rw [hE]; unfold eFrac; rw [if_pos (by omega), if_neg (by omega)], by omega⟩, ⟨rfl, rfl, rfl, trivial⟩, rfl⟩ | refine ⟨k, ⟨by rw [hE]; unfold eFrac; rw [if_neg (by omega)], by omega⟩, ⟨rfl, rfl, rfl, trivial⟩, rfl⟩
          · rw [h5]; (try simp only [decide_eq_true_eq, decide_eq_false_iff_not, Bool.not_eq_true', Bool.not_eq_false', Int.not_lt, Int.not_le, Bool.not_true, Bool.not_false, Int.toNat_natCast, tn1, tn2, tnn, bne_iff_ne, beq_iff_eq, beq_eq_false_iff_ne, ne_eq, Decidable.not_not] at h5)
            refine stS rfl rfl rfl (.inl rfl) rfl rfl ?_
            refine stS rfl rfl rfl (.inl rfl) rfl rfl ?_
            refine stS rfl rfl rfl (.inl rfl) rfl rfl ?_
            refine stS rfl rfl rfl (.inl rfl) rfl rfl ?_
            refine st rfl rfl rfl (op_pickFO rfl rfl rfl) ?_
            refine AOps_nil ?_
            refine AWp_condF rfl ?_
            refine AWp_skip ?_
            first | refine ⟨k + 1 + runl s (k + 1), ⟨by rw [hE]; unfold eFrac; rw [if_pos (by omega), if_neg (by omega)], by omega⟩, ⟨rfl, rfl, rfl, trivial⟩, rfl⟩ | refine ⟨k, ⟨by rw [hE]; unfold eFrac; rw [if_neg (by omega)], by omega⟩, ⟨rfl, rfl, rfl, trivial⟩, rfl⟩
        · skip
          obtain ⟨hE, hj⟩ := hj
          refine AWp_seq ?_
          refine AWp_seq ?_
          -- region 15 ref.go:36
          refine AWp_regL ?_
          refine st rfl rfl rfl (op_moveO rfl rfl) ?_
          refine st rfl rfl rfl (op_moveO rfl rfl) ?_
          refine st rfl rfl rfl (op_lenStr rfl rfl Tryd.underlying9 rfl) ?_
          refine st rfl rfl rfl (op_lss rfl rfl rfl) ?_
          refine st rfl rfl rfl (op_moveO rfl rfl) ?_
          refine AOps_split 59 rfl (fun h8 => ?_) (fun h8 => ?_)
          · rw [h8]; (try simp only [decide_eq_true_eq, decide_eq_false_iff_not, Bool.not_eq_true', Bool.not_eq_false', Int.not_lt, Int.not_le, Bool.not_true, Bool.not_false, Int.toNat_natCast, tn1, tn2, tnn, bne_iff_ne, beq_iff_eq, beq_eq_false_iff_ne, ne_eq, Decidable.not_not] at h8)
            refine stG rfl rfl rfl rfl rfl rfl (op_moveO rfl rfl) ?_
            refine stG rfl rfl rfl rfl rfl rfl (op_moveO rfl rfl) ?_
            refine stG rfl rfl rfl rfl rfl rfl (op_index_strB rfl Tryd.underlying9 rfl rfl (by omega) (by omega)) ?_
            refine stG rfl rfl rfl rfl rfl rfl (op_eql rfl rfl rfl) ?_
            refine stG rfl rfl rfl rfl rfl rfl (op_moveO rfl rfl) ?_
            refine AOps_split 64 rfl (fun h9 => ?_) (fun h9 => ?_)
            · rw [h9]; (try simp only [decide_eq_true_eq, decide_eq_false_iff_not, Bool.not_eq_true', Bool.not_eq_false', Int.not_lt, Int.not_le, Bool.not_true, Bool.not_false, Int.toNat_natCast, tn1, tn2, tnn, bne_iff_ne, beq_iff_eq, beq_eq_false_iff_ne, ne_eq, Decidable.not_not] at h9)
              refine stS rfl rfl rfl (.inl rfl) rfl rfl ?_
              refine stS rfl rfl rfl (.inl rfl) rfl rfl ?_
              refine stS rfl rfl rfl (.inl rfl) rfl rfl ?_
              refine stS rfl rfl rfl (.inl rfl) rfl rfl ?_
              refine stG rfl rfl rfl rfl rfl rfl (op_pickTO rfl rfl rfl) ?_
              refine st rfl rfl rfl (op_pickTO rfl rfl rfl) ?_
              refine AOps_nil ?_
              refine AWp_condT rfl ?_
              refine AWp_seq ?_
              -- region 16 ref.go:37
              refine AWp_regL ?_
              refine st rfl rfl rfl (op_moveO rfl rfl) ?_
              refine st rfl rfl rfl (op_add64 rfl rfl rfl (by omega) (by omega)) ?_
              refine st rfl rfl rfl (op_assignO rfl rfl) ?_
              refine AOps_nil ?_
              refine AWp_join (ι := Unit) (fun b => True) (fun b => ⟨[], [(0, .str s), (6, .int .i64 (eSg s (j + 1) : Int))]⟩) (fun b => σ) ?_ (fun b hj => ?_)
              · skip
                refine AWp_seq ?_
                -- region 17 ref.go:38
                refine AWp_regL ?_
                refine st rfl rfl rfl (op_moveO rfl rfl) ?_
                refine st rfl rfl rfl (op_moveO rfl rfl) ?_
                refine st rfl rfl rfl (op_lenStr rfl rfl Tryd.underlying9 rfl) ?_
                refine st rfl rfl rfl (op_lss rfl rfl rfl) ?_
                refine st rfl rfl rfl (op_moveO rfl rfl) ?_
                refine AOps_split 77 rfl (fun h10 => ?_) (fun h10 => ?_)
                · rw [h10]; (try simp only [decide_eq_true_eq, decide_eq_false_iff_not, Bool.not_eq_true', Bool.not_eq_false', Int.not_lt, Int.not_le, Bool.not_true, Bool.not_false, Int.toNat_natCast, tn1, tn2, tnn, bne_iff_ne, beq_iff_eq, beq_eq_false_iff_ne, ne_eq, Decidable.not_not] at h10)
                  refine stG rfl rfl rfl rfl rfl rfl (op_moveO rfl rfl) ?_
                  refine stG rfl rfl rfl rfl rfl rfl (op_moveO rfl rfl) ?_
                  refine stG rfl rfl rfl rfl rfl rfl (op_index_strB rfl Tryd.underlying9 rfl rfl (by omega) (by omega)) ?_
                  refine stG rfl rfl rfl rfl rfl rfl (op_eql rfl rfl rfl) ?_
                  refine stG rfl rfl rfl rfl rfl rfl (op_moveO rfl rfl) ?_
                  refine AOps_split 82 rfl (fun h11 => ?_) (fun h11 => ?_)
                  · rw [h11]; (try simp only [decide_eq_true_eq, decide_eq_false_iff_not, Bool.not_eq_true', Bool.not_eq_false', Int.not_lt, Int.not_le, Bool.not_true, Bool.not_false, Int.toNat_natCast, tn1, tn2, tnn, bne_iff_ne, beq_iff_eq, beq_eq_false_iff_ne, ne_eq, Decidable.not_not] at h11)
                    refine stS rfl rfl rfl (.inl rfl) rfl rfl ?_
                    refine stS rfl rfl rfl (.inl rfl) rfl rfl ?_
                    refine stS rfl rfl rfl (.inl rfl) rfl rfl ?_
                    refine stS rfl rfl rfl (.inl rfl) rfl rfl ?_
                    refine stG rfl rfl rfl rfl rfl rfl (op_pickTO rfl rfl rfl) ?_
                    refine st rfl rfl rfl (op_pickTO rfl rfl rfl) ?_
                    refine AOps_nil ?_
                    refine AWp_condT rfl ?_
                    -- region 18 ref.go:39
                    refine AWp_regL ?_
                    refine st rfl rfl rfl (op_moveO rfl rfl) ?_
                    refine st rfl rfl rfl (op_add64 rfl rfl rfl (by omega) (by omega)) ?_
                    refine st rfl rfl rfl (op_assignO rfl rfl) ?_
                    refine AOps_nil ?_
                    refine ⟨(), trivial, ⟨rfl, rfl, ?_, trivial⟩, rfl⟩
                    unfold eSg; first | (rw [if_pos (by omega)]; rfl) | (rw [if_neg (by omega)]; rfl)
                  · rw [h11]; (try simp only [decide_eq_true_eq, decide_eq_false_iff_not, Bool.not_eq_true', Bool.not_eq_false', Int.not_lt, Int.not_le, Bool.not_true, Bool.not_false, Int.toNat_natCast, tn1, tn2, tnn, bne_iff_ne, beq_iff_eq, beq_eq_false_iff_ne, ne_eq, Decidable.not_not] at h11)
                    refine stG rfl rfl rfl rfl rfl rfl (op_moveO rfl rfl) ?_
                    refine stG rfl rfl rfl rfl rfl rfl (op_moveO rfl rfl) ?_
                    refine stG rfl rfl rfl rfl rfl rfl (op_index_strB rfl Tryd.underlying9 rfl rfl (by omega) (by omega)) ?_
                    refine stG rfl rfl rfl rfl rfl rfl (op_eql rfl rfl rfl) ?_
                    refine stG rfl rfl rfl rfl rfl rfl (op_pickFO rfl rfl rfl) ?_
                    refine st rfl rfl rfl (op_pickTO rfl rfl rfl) ?_
                    refine AOps_nil ?_
                    refine AWp_cond rfl (fun h12 => ?_) (fun h12 => ?_)
                    · (try rw [h12]); (try simp only [decide_eq_true_eq, decide_eq_false_iff_not, Bool.not_eq_true', Bool.not_eq_false', Int.not_lt, Int.not_le, Bool.not_true, Bool.not_false, Int.toNat_natCast, tn1, tn2, tnn, bne_iff_ne, beq_iff_eq, beq_eq_false_iff_ne, ne_eq, Decidable.not_not] at h12)
                      -- region 18 ref.go:39
                      refine AWp_regL ?_
                      refine st rfl rfl rfl (op_moveO rfl rfl) ?_
                      refine st rfl rfl rfl (op_add64 rfl rfl rfl (by omega) (by omega)) ?_
                      refine st rfl rfl rfl (op_assignO rfl rfl) ?_
                      refine AOps_nil ?_
                      refine ⟨(), trivial, ⟨rfl, rfl, ?_, trivial⟩, rfl⟩
                      unfold eSg; first | (rw [if_pos (by omega)]; rfl) | (rw [if_neg (by omega)]; rfl)
                    · (try rw [h12]); (try simp only [decide_eq_true_eq, decide_eq_false_iff_not, Bool.not_eq_true', Bool.not_eq_false', Int.not_lt, Int.not_le, Bool.not_true, Bool.not_false, Int.toNat_natCast, tn1, tn2, tnn, bne_iff_ne, beq_iff_eq, beq_eq_false_iff_ne, ne_eq, Decidable.not_not] at h12)
                      refine AWp_skip ?_
                      refine ⟨(), trivial, ⟨rfl, rfl, ?_, trivial⟩, rfl⟩
                      unfold eSg; first | (rw [if_pos (by omega)]; rfl) | (rw [if_neg (by omega)]; rfl)
                · rw [h10]; (try simp only [decide_eq_true_eq, decide_eq_false_iff_not, Bool.not_eq_true', Bool.not_eq_false', Int.not_lt, Int.not_le, Bool.not_true, Bool.not_false, Int.toNat_natCast, tn1, tn2, tnn, bne_iff_ne, beq_iff_eq, beq_eq_false_iff_ne, ne_eq, Decidable.not_not] at h10)
                  refine stS rfl rfl rfl (.inl rfl) rfl rfl ?_
                  refine stS rfl rfl rfl (.inl rfl) rfl rfl ?_
                  refine stS rfl rfl rfl (.inl rfl) rfl rfl ?_
                  refine stS rfl rfl rfl (.inl rfl) rfl rfl ?_
                  refine stS rfl rfl rfl (.inl rfl) rfl rfl ?_
                  refine stS rfl rfl rfl (.inr rfl) rfl rfl ?_
                  refine stS rfl rfl rfl (.inr rfl) rfl rfl ?_
                  refine stS rfl rfl rfl (.inr rfl) rfl rfl ?_
                  refine stS rfl rfl rfl (.inr rfl) rfl rfl ?_
                  refine stS rfl rfl rfl (.inl rfl) rfl rfl ?_
                  refine st rfl rfl rfl (op_pickFO rfl rfl rfl) ?_
                  refine AOps_nil ?_
                  refine AWp_condF rfl ?_
                  refine AWp_skip ?_
                  refine ⟨(), trivial, ⟨rfl, rfl, ?_, trivial⟩, rfl⟩
                  unfold eSg; first | (rw [if_pos (by omega)]; rfl) | (rw [if_neg (by omega)]; rfl)
              · skip
                have hi3 := eSg_le (s := s) (a := j + 1) (by omega)
                have hr3 := runl_le s (eSg s (j + 1))
                refine AWp_seq ?_
                -- region 19 ref.go:41
                refine AWp_regL ?_
                refine st rfl rfl rfl (op_moveO rfl rfl) ?_
                refine st rfl rfl rfl (op_moveO rfl rfl) ?_
                refine st rfl rfl rfl (op_callF rfl rfl rfl Tryd.func51 rfl rfl (run_n s (eSg s (j + 1)) _ hs (by omega))) ?_
                refine st rfl rfl rfl (op_assignO rfl rfl) ?_
                refine AOps_nil ?_
                refine AWp_seq ?_
                -- region 20 ref.go:42
                refine AWp_regL ?_
                refine st rfl rfl rfl (op_moveO rfl rfl) ?_
                refine st rfl rfl rfl (op_moveO rfl rfl) ?_
                refine st rfl rfl rfl (op_add64 rfl rfl rfl (by omega) (by omega)) ?_
                refine st rfl rfl rfl (op_assignO rfl rfl) ?_
                refine AOps_nil ?_
                refine AWp_seq ?_
                -- region 21 ref.go:43
                refine AWp_regL ?_
                refine st rfl rfl rfl (op_moveO rfl rfl) ?_
                refine st rfl rfl rfl (op_eql rfl rfl rfl) ?_
                refine AOps_nil ?_
                refine AWp_cond rfl (fun h13 => ?_) (fun h13 => ?_)
                · (try rw [h13]); (try simp only [decide_eq_true_eq, decide_eq_false_iff_not, Bool.not_eq_true', Bool.not_eq_false', Int.not_lt, Int.not_le, Bool.not_true, Bool.not_false, Int.toNat_natCast, tn1, tn2, tnn, bne_iff_ne, beq_iff_eq, beq_eq_false_iff_ne, ne_eq, Decidable.not_not] at h13)
                  refine AWp_seq ?_
                  -- region 22 ref.go:44
                  refine AWp_regL ?_
                  refine st rfl rfl rfl (op_moveO rfl rfl) ?_
                  refine st rfl rfl rfl (op_assignO rfl rfl) ?_
                  refine st rfl rfl rfl (op_assignO rfl rfl) ?_
                  refine AOps_nil ?_
                  refine AWp_ret ?_
                  (try simp only [blockQ, thenQ])
                  first | (have hE2 : rEnd s a = (eSg s (j + 1), false) := by rw [hE]; unfold ePow; rw [if_pos (by omega), if_pos (by omega)]); rw [hE2]; (refine ResQ_20 rfl rfl hcl (by simp [AV.lt, AV.ltL]) (Ret_of ?_)); congr 3; dsimp only; omega | (have hE2 : rEnd s a = (eSg s (j + 1) + runl s (eSg s (j + 1)), true) := by rw [hE]; unfold ePow; rw [if_pos (by omega), if_neg (by omega)]); rw [hE2]; exact ResQ_20 rfl rfl hcl (by simp [AV.lt, AV.ltL]) (Ret_of rfl) | (have hE2 : rEnd s a = (j, true) := by rw [hE]; unfold ePow; rw [if_neg (by omega)]); rw [hE2]; exact ResQ_20 rfl rfl hcl (by simp [AV.lt, AV.ltL]) (Ret_of rfl)
                · (try rw [h13]); (try simp only [decide_eq_true_eq, decide_eq_false_iff_not, Bool.not_eq_true', Bool.not_eq_false', Int.not_lt, Int.not_le, Bool.not_true, Bool.not_false, Int.toNat_natCast, tn1, tn2, tnn, bne_iff_ne, beq_iff_eq, beq_eq_false_iff_ne, ne_eq, Decidable.not_not] at h13)
                  refine AWp_skip ?_
                  refine AWp_seq ?_
                  -- region 23 ref.go:47
                  refine AWp_regL ?_
                  refine st rfl rfl rfl (op_moveO rfl rfl) ?_
                  refine st rfl rfl rfl (op_assignO rfl rfl) ?_
                  refine st rfl rfl rfl (op_assignO rfl rfl) ?_
                  refine AOps_nil ?_
                  refine AWp_ret ?_
                  (try simp only [blockQ, thenQ])
                  first | (have hE2 : rEnd s a = (eSg s (j + 1), false) := by rw [hE]; unfold ePow; rw [if_pos (by omega), if_pos (by omega)]); rw [hE2]; (refine ResQ_20 rfl rfl hcl (by simp [AV.lt, AV.ltL]) (Ret_of ?_)); congr 3; dsimp only; omega | (have hE2 : rEnd s a = (eSg s (j + 1) + runl s (eSg s (j + 1)), true) := by rw [hE]; unfold ePow; rw [if_pos (by omega), if_neg (by omega)]); rw [hE2]; exact ResQ_20 rfl rfl hcl (by simp [AV.lt, AV.ltL]) (Ret_of rfl) | (have hE2 : rEnd s a = (j, true) := by rw [hE]; unfold ePow; rw [if_neg (by omega)]); rw [hE2]; exact ResQ_20 rfl rfl hcl (by simp [AV.lt, AV.ltL]) (Ret_of rfl)
            · rw [h9]; (try simp only [decide_eq_true_eq, decide_eq_false_iff_not, Bool.not_eq_true', Bool.not_eq_false', Int.not_lt, Int.not_le, Bool.not_true, Bool.not_false, Int.toNat_natCast, tn1, tn2, tnn, bne_iff_ne, beq_iff_eq, beq_eq_false_iff_ne, ne_eq, Decidable.not_not] at h9)
              refine stG rfl rfl rfl rfl rfl rfl (op_moveO rfl rfl) ?_
              refine stG rfl rfl rfl rfl rfl rfl (op_moveO rfl rfl) ?_
              refine stG rfl rfl rfl rfl rfl rfl (op_index_strB rfl Tryd.underlying9 rfl rfl (by omega) (by omega)) ?_
              refine stG rfl rfl rfl rfl rfl rfl (op_eql rfl rfl rfl) ?_
              refine stG rfl rfl rfl rfl rfl rfl (op_pickFO rfl rfl rfl) ?_
              refine st rfl rfl rfl (op_pickTO rfl rfl rfl) ?_
              refine AOps_nil ?_
              refine AWp_cond rfl (fun h14 => ?_) (fun h14 => ?_)
              · (try rw [h14]); (try simp only [decide_eq_true_eq, decide_eq_false_iff_not, Bool.not_eq_true', Bool.not_eq_false', Int.not_lt, Int.not_le, Bool.not_true, Bool.not_false, Int.toNat_natCast, tn1, tn2, tnn, bne_iff_ne, beq_iff_eq, beq_eq_false_iff_ne, ne_eq, Decidable.not_not] at h14)
                refine AWp_seq ?_
                -- region 16 ref.go:37
                refine AWp_regL ?_
                refine st rfl rfl rfl (op_moveO rfl rfl) ?_
                refine st rfl rfl rfl (op_add64 rfl rfl rfl (by omega) (by omega)) ?_
                refine st rfl rfl rfl (op_assignO rfl rfl) ?_
                refine AOps_nil ?_
                refine AWp_join (ι := Unit) (fun b => True) (fun b => ⟨[], [(0, .str s), (6, .int .i64 (eSg s (j + 1) : Int))]⟩) (fun b => σ) ?_ (fun b hj => ?_)
                · skip
                  refine AWp_seq ?_
                  -- region 17 ref.go:38
                  refine AWp_regL ?_
                  refine st rfl rfl rfl (op_moveO rfl rfl) ?_
                  refine st rfl rfl rfl (op_moveO rfl rfl) ?_
                  refine st rfl rfl rfl (op_lenStr rfl rfl Tryd.underlying9 rfl) ?_
                  refine st rfl rfl rfl (op_lss rfl rfl rfl) ?_
                  refine st rfl rfl rfl (op_moveO rfl rfl) ?_
                  refine AOps_split 77 rfl (fun h15 => ?_) (fun h15 => ?_)
                  · rw [h15]; (try simp only [decide_eq_true_eq, decide_eq_false_iff_not, Bool.not_eq_true', Bool.not_eq_false', Int.not_lt, Int.not_le, Bool.not_true, Bool.not_false, Int.toNat_natCast, tn1, tn2, tnn, bne_iff_ne, beq_iff_eq, beq_eq_false_iff_ne, ne_eq, Decidable.not_not] at h15)
                    refine stG rfl rfl rfl rfl rfl rfl (op_moveO rfl rfl) ?_
                    refine stG rfl rfl rfl rfl rfl rfl (op_moveO rfl rfl) ?_
                    refine stG rfl rfl rfl rfl rfl rfl (op_index_strB rfl Tryd.underlying9 rfl rfl (by omega) (by omega)) ?_
                    refine stG rfl rfl rfl rfl rfl rfl (op_eql rfl rfl rfl) ?_
                    refine stG rfl rfl rfl rfl rfl rfl (op_moveO rfl rfl) ?_
                    refine AOps_split 82 rfl (fun h16 => ?_) (fun h16 => ?_)
                    · rw [h16]; (try simp only [decide_eq_true_eq, decide_eq_false_iff_not, Bool.not_eq_true', Bool.not_eq_false', Int.not_lt, Int.not_le, Bool.not_true, Bool.not_false, Int.toNat_natCast, tn1, tn2, tnn, bne_iff_ne, beq_iff_eq, beq_eq_false_iff_ne, ne_eq, Decidable.not_not] at h16)
                      refine stS rfl rfl rfl (.inl rfl) rfl rfl ?_
                      refine stS rfl rfl rfl (.inl rfl) rfl rfl ?_
                      refine stS rfl rfl rfl (.inl rfl) rfl rfl ?_
                      refine stS rfl rfl rfl (.inl rfl) rfl rfl ?_
                      refine stG rfl rfl rfl rfl rfl rfl (op_pickTO rfl rfl rfl) ?_
                      refine st rfl rfl rfl (op_pickTO rfl rfl rfl) ?_
                      refine AOps_nil ?_
                      refine AWp_condT rfl ?_
                      -- region 18 ref.go:39
                      refine AWp_regL ?_
                      refine st rfl rfl rfl (op_moveO rfl rfl) ?_
                      refine st rfl rfl rfl (op_add64 rfl rfl rfl (by omega) (by omega)) ?_
                      refine st rfl rfl rfl (op_assignO rfl rfl) ?_
                      refine AOps_nil ?_
                      refine ⟨(), trivial, ⟨rfl, rfl, ?_, trivial⟩, rfl⟩
                      unfold eSg; first | (rw [if_pos (by omega)]; rfl) | (rw [if_neg (by omega)]; rfl)
                    · rw [h16]; (try simp only [decide_eq_true_eq, decide_eq_false_iff_not, Bool.not_eq_true', Bool.not_eq_false', Int.not_lt, Int.not_le, Bool.not_true, Bool.not_false, Int.toNat_natCast, tn1, tn2, tnn, bne_iff_ne, beq_iff_eq, beq_eq_false_iff_ne, ne_eq, Decidable.not_not] at h16)
                      refine stG rfl rfl rfl rfl rfl rfl (op_moveO rfl rfl) ?_
                      refine stG rfl rfl rfl rfl rfl rfl (op_moveO rfl rfl) ?_
                      refine stG rfl rfl rfl rfl rfl rfl (op_index_strB rfl Tryd.underlying9 rfl rfl (by omega) (by omega)) ?_
                      refine stG rfl rfl rfl rfl rfl rfl (op_eql rfl rfl rfl) ?_
                      refine stG rfl rfl rfl rfl rfl rfl (op_pickFO rfl rfl rfl) ?_
                      refine st rfl rfl rfl (op_pickTO rfl rfl rfl) ?_
                      refine AOps_nil ?_
                      refine AWp_cond rfl (fun h17 => ?_) (fun h17 => ?_)
                      · (try rw [h17]); (try simp only [decide_eq_true_eq, decide_eq_false_iff_not, Bool.not_eq_true', Bool.not_eq_false', Int.not_lt, Int.not_le, Bool.not_true, Bool.not_false, Int.toNat_natCast, tn1, tn2, tnn, bne_iff_ne, beq_iff_eq, beq_eq_false_iff_ne, ne_eq, Decidable.not_not] at h17)
                        -- region 18 ref.go:39
                        refine AWp_regL ?_
                        refine st rfl rfl rfl (op_moveO rfl rfl) ?_
                        refine st rfl rfl rfl (op_add64 rfl rfl rfl (by omega) (by omega)) ?_
                        refine st rfl rfl rfl (op_assignO rfl rfl) ?_
                        refine AOps_nil ?_
                        refine ⟨(), trivial, ⟨rfl, rfl, ?_, trivial⟩, rfl⟩
                        unfold eSg; first | (rw [if_pos (by omega)]; rfl) | (rw [if_neg (by omega)]; rfl)
                      · (try rw [h17]); (try simp only [decide_eq_true_eq, decide_eq_false_iff_not, Bool.not_eq_true', Bool.not_eq_false', Int.not_lt, Int.not_le, Bool.not_true, Bool.not_false, Int.toNat_natCast, tn1, tn2, tnn, bne_iff_ne, beq_iff_eq, beq_eq_false_iff_ne, ne_eq, Decidable.not_not] at h17)
                        refine AWp_skip ?_
                        refine ⟨(), trivial, ⟨rfl, rfl, ?_, trivial⟩, rfl⟩
                        unfold eSg; first | (rw [if_pos (by omega)]; rfl) | (rw [if_neg (by omega)]; rfl)
                  · rw [h15]; (try simp only [decide_eq_true_eq, decide_eq_false_iff_not, Bool.not_eq_true', Bool.not_eq_false', Int.not_lt, Int.not_le, Bool.not_true, Bool.not_false, Int.toNat_natCast, tn1, tn2, tnn, bne_iff_ne, beq_iff_eq, beq_eq_false_iff_ne, ne_eq, Decidable.not_not] at h15)
                    refine stS rfl rfl rfl (.inl rfl) rfl rfl ?_
                    refine stS rfl rfl rfl (.inl rfl) rfl rfl ?_
                    refine stS rfl rfl rfl (.inl rfl) rfl rfl ?_
                    refine stS rfl rfl rfl (.inl rfl) rfl rfl ?_
                    refine stS rfl rfl rfl (.inl rfl) rfl rfl ?_
                    refine stS rfl rfl rfl (.inr rfl) rfl rfl ?_
                    refine stS rfl rfl rfl (.inr rfl) rfl rfl ?_
                    refine stS rfl rfl rfl (.inr rfl) rfl rfl ?_
                    refine stS rfl rfl rfl (.inr rfl) rfl rfl ?_
                    refine stS rfl rfl rfl (.inl rfl) rfl rfl ?_
                    refine st rfl rfl rfl (op_pickFO rfl rfl rfl) ?_
                    refine AOps_nil ?_
                    refine AWp_condF rfl ?_
                    refine AWp_skip ?_
                    refine ⟨(), trivial, ⟨rfl, rfl, ?_, trivial⟩, rfl⟩
                    unfold eSg; first | (rw [if_pos (by omega)]; rfl) | (rw [if_neg (by omega)]; rfl)
                · skip
                  have hi3 := eSg_le (s := s) (a := j + 1) (by omega)
                  have hr3 := runl_le s (eSg s (j + 1))
                  refine AWp_seq ?_
                  -- region 19 ref.go:41
                  refine AWp_regL ?_
                  refine st rfl rfl rfl (op_moveO rfl rfl) ?_
                  refine st rfl rfl rfl (op_moveO rfl rfl) ?_
                  refine st rfl rfl rfl (op_callF rfl rfl rfl Tryd.func51 rfl rfl (run_n s (eSg s (j + 1)) _ hs (by omega))) ?_
                  refine st rfl rfl rfl (op_assignO rfl rfl) ?_
                  refine AOps_nil ?_
                  refine AWp_seq ?_
                  -- region 20 ref.go:42
                  refine AWp_regL ?_
                  refine st rfl rfl rfl (op_moveO rfl rfl) ?_
                  refine st rfl rfl rfl (op_moveO rfl rfl) ?_
                  refine st rfl rfl rfl (op_add64 rfl rfl rfl (by omega) (by omega)) ?_
                  refine st rfl rfl rfl (op_assignO rfl rfl) ?_
                  refine AOps_nil ?_
                  refine AWp_seq ?_
                  -- region 21 ref.go:43
                  refine AWp_regL ?_
                  refine st rfl rfl rfl (op_moveO rfl rfl) ?_
                  refine st rfl rfl rfl (op_eql rfl rfl rfl) ?_
                  refine AOps_nil ?_
                  refine AWp_cond rfl (fun h18 => ?_) (fun h18 => ?_)
                  · (try rw [h18]); (try simp only [decide_eq_true_eq, decide_eq_false_iff_not, Bool.not_eq_true', Bool.not_eq_false', Int.not_lt, Int.not_le, Bool.not_true, Bool.not_false, Int.toNat_natCast, tn1, tn2, tnn, bne_iff_ne, beq_iff_eq, beq_eq_false_iff_ne, ne_eq, Decidable.not_not] at h18)
                    refine AWp_seq ?_
                    -- region 22 ref.go:44
                    refine AWp_regL ?_
                    refine st rfl rfl rfl (op_moveO rfl rfl) ?_
                    refine st rfl rfl rfl (op_assignO rfl rfl) ?_
                    refine st rfl rfl rfl (op_assignO rfl rfl) ?_
                    refine AOps_nil ?_
                    refine AWp_ret ?_
                    (try simp only [blockQ, thenQ])
                    first | (have hE2 : rEnd s a = (eSg s (j + 1), false) := by rw [hE]; unfold ePow; rw [if_pos (by omega), if_pos (by omega)]); rw [hE2]; (refine ResQ_20 rfl rfl hcl (by simp [AV.lt, AV.ltL]) (Ret_of ?_)); congr 3; dsimp only; omega | (have hE2 : rEnd s a = (eSg s (j + 1) + runl s (eSg s (j + 1)), true) := by rw [hE]; unfold ePow; rw [if_pos (by omega), if_neg (by omega)]); rw [hE2]; exact ResQ_20 rfl rfl hcl (by simp [AV.lt, AV.ltL]) (Ret_of rfl) | (have hE2 : rEnd s a = (j, true) := by rw [hE]; unfold ePow; rw [if_neg (by omega)]); rw [hE2]; exact ResQ_20 rfl rfl hcl (by simp [AV.lt, AV.ltL]) (Ret_of rfl)
                  · (try rw [h18]); (try simp only [decide_eq_true_eq, decide_eq_false_iff_not, Bool.not_eq_true', Bool.not_eq_false', Int.not_lt, Int.not_le, Bool.not_true, Bool.not_false, Int.toNat_natCast, tn1, tn2, tnn, bne_iff_ne, beq_iff_eq, beq_eq_false_iff_ne, ne_eq, Decidable.not_not] at h18)
                    refine AWp_skip ?_
                    refine AWp_seq ?_
                    -- region 23 ref.go:47
                    refine AWp_regL ?_
                    refine st rfl rfl rfl (op_moveO rfl rfl) ?_
                    refine st rfl rfl rfl (op_assignO rfl rfl) ?_
                    refine st rfl rfl rfl (op_assignO rfl rfl) ?_
                    refine AOps_nil ?_
                    refine AWp_ret ?_
                    (try simp only [blockQ, thenQ])
                    first | (have hE2 : rEnd s a = (eSg s (j + 1), false) := by rw [hE]; unfold ePow; rw [if_pos (by omega), if_pos (by omega)]); rw [hE2]; (refine ResQ_20 rfl rfl hcl (by simp [AV.lt, AV.ltL]) (Ret_of ?_)); congr 3; dsimp only; omega | (have hE2 : rEnd s a = (eSg s (j + 1) + runl s (eSg s (j + 1)), true) := by rw [hE]; unfold ePow; rw [if_pos (by omega), if_neg (by omega)]); rw [hE2]; exact ResQ_20 rfl rfl hcl (by simp [AV.lt, AV.ltL]) (Ret_of rfl) | (have hE2 : rEnd s a = (j, true) := by rw [hE]; unfold ePow; rw [if_neg (by omega)]); rw [hE2]; exact ResQ_20 rfl rfl hcl (by simp [AV.lt, AV.ltL]) (Ret_of rfl)
              · (try rw [h14]); (try simp only [decide_eq_true_eq, decide_eq_false_iff_not, Bool.not_eq_true', Bool.not_eq_false', Int.not_lt, Int.not_le, Bool.not_true, Bool.not_false, Int.toNat_natCast, tn1, tn2, tnn, bne_iff_ne, beq_iff_eq, beq_eq_false_iff_ne, ne_eq, Decidable.not_not] at h14)
                refine AWp_skip ?_
                refine AWp_seq ?_
                -- region 23 ref.go:47
                refine AWp_regL ?_
                refine st rfl rfl rfl (op_moveO rfl rfl) ?_
                refine st rfl rfl rfl (op_assignO rfl rfl) ?_
                refine st rfl rfl rfl (op_assignO rfl rfl) ?_
                refine AOps_nil ?_
                refine AWp_ret ?_
                (try simp only [blockQ, thenQ])
                first | (have hE2 : rEnd s a = (eSg s (j + 1), false) := by rw [hE]; unfold ePow; rw [if_pos (by omega), if_pos (by omega)]); rw [hE2]; (refine ResQ_20 rfl rfl hcl (by simp [AV.lt, AV.ltL]) (Ret_of ?_)); congr 3; dsimp only; omega | (have hE2 : rEnd s a = (eSg s (j + 1) + runl s (eSg s (j + 1)), true) := by rw [hE]; unfold ePow; rw [if_pos (by omega), if_neg (by omega)]); rw [hE2]; exact ResQ_20 rfl rfl hcl (by simp [AV.lt, AV.ltL]) (Ret_of rfl) | (have hE2 : rEnd s a = (j, true) := by rw [hE]; unfold ePow; rw [if_neg (by omega)]); rw [hE2]; exact ResQ_20 rfl rfl hcl (by simp [AV.lt, AV.ltL]) (Ret_of rfl)
          · rw [h8]; (try simp only [decide_eq_true_eq, decide_eq_false_iff_not, Bool.not_eq_true', Bool.not_eq_false', Int.not_lt, Int.not_le, Bool.not_true, Bool.not_false, Int.toNat_natCast, tn1, tn2, tnn, bne_iff_ne, beq_iff_eq, beq_eq_false_iff_ne, ne_eq, Decidable.not_not] at h8)
            refine stS rfl rfl rfl (.inl rfl) rfl rfl ?_
            refine stS rfl rfl rfl (.inl rfl) rfl rfl ?_
            refine stS rfl rfl rfl (.inl rfl) rfl rfl ?_
            refine stS rfl rfl rfl (.inl rfl) rfl rfl ?_
            refine stS rfl rfl rfl (.inl rfl) rfl rfl ?_
            refine stS rfl rfl rfl (.inr rfl) rfl rfl ?_
            refine stS rfl rfl rfl (.inr rfl) rfl rfl ?_
            refine stS rfl rfl rfl (.inr rfl) rfl rfl ?_
            refine stS rfl rfl rfl (.inr rfl) rfl rfl ?_
            refine stS rfl rfl rfl (.inl rfl) rfl rfl ?_
            refine st rfl rfl rfl (op_pickFO rfl rfl rfl) ?_
            refine AOps_nil ?_
            refine AWp_condF rfl ?_
            refine AWp_skip ?_
            refine AWp_seq ?_
            -- region 23 ref.go:47
            refine AWp_regL ?_
            refine st rfl rfl rfl (op_moveO rfl rfl) ?_
            refine st rfl rfl rfl (op_assignO rfl rfl) ?_
            refine st rfl rfl rfl (op_assignO rfl rfl) ?_
            refine AOps_nil ?_
            refine AWp_ret ?_
            (try simp only [blockQ, thenQ])
            first | (have hE2 : rEnd s a = (eSg s (j + 1), false) := by rw [hE]; unfold ePow; rw [if_pos (by omega), if_pos (by omega)]); rw [hE2]; (refine ResQ_20 rfl rfl hcl (by simp [AV.lt, AV.ltL]) (Ret_of ?_)); congr 3; dsimp only; omega | (have hE2 : rEnd s a = (eSg s (j + 1) + runl s (eSg s (j + 1)), true) := by rw [hE]; unfold ePow; rw [if_pos (by omega), if_neg (by omega)]); rw [hE2]; exact ResQ_20 rfl rfl hcl (by simp [AV.lt, AV.ltL]) (Ret_of rfl) | (have hE2 : rEnd s a = (j, true) := by rw [hE]; unfold ePow; rw [if_neg (by omega)]); rw [hE2]; exact ResQ_20 rfl rfl hcl (by simp [AV.lt, AV.ltL]) (Ret_of rfl)

end Lg
set_option maxRecDepth 20000
set_option maxHeartbeats 4000000
namespace Lg
open Go Go.Proofs Go.RowKit
variable [GLay] 


theorem hex_c (s : ByteArray) (a : Nat) (σ : List AO) (hs : s.size ≤ 1000000) (ha : a ≤ 2000000) : ACalls Tryd.prog 44 [.str s, .int .i64 (a : Int)] σ (Ret (.tup [.int .i64 (rhex s a).1, .int .i64 (rhex s a).2]) σ) := by
  refine ACalls_body Tryd.func44 rfl Tryd.ntmps44 (res2 Tryd.results44) (Nat.le_of_ble_eq_true rfl) (fun hcl hal => ?_)
  refine AWp_seq ?_
  -- region 0 ref.go:273
  refine AWp_regL ?_
  refine st rfl rfl rfl (op_assignO rfl rfl) ?_
  refine st rfl rfl rfl (op_assignO rfl rfl) ?_
  refine AOps_nil ?_
  refine AWp_seq ?_
  -- region 1 ref.go:274
  refine AWp_regL ?_
  refine st rfl rfl rfl (op_assignO rfl rfl) ?_
  refine AOps_nil ?_
  refine AWp_seq ?_
  refine AWp_seq ?_
  -- region 2 ref.go:275
  refine AWp_regL ?_
  refine st rfl rfl rfl (op_moveO rfl rfl) ?_
  refine st rfl rfl rfl (op_assignO rfl rfl) ?_
  refine AOps_nil ?_
  refine AWp_block ?_
  -- loop 0 LIVE 0:param 1:param 4:assign 5:assign 6:assign 7:assign
  refine AWp_loop (ι := Nat × Int) (fun q => hexF s q.1 (a + 4) q.2 = rhex s a ∧ a ≤ q.1 ∧ 0 ≤ q.2 ∧ ((q.1 = a ∧ q.2 = 0) ∨ (q.1 = a + 1 ∧ q.2 < 16) ∨ (q.1 = a + 2 ∧ q.2 < 256) ∨ (q.1 = a + 3 ∧ q.2 < 4096) ∨ (q.1 = a + 4 ∧ q.2 < 65536))) (fun q => ⟨[], [(0, .str s), (1, .int .i64 (a : Int)), (6, .int .i64 q.2), (7, .int .i64 (q.1 : Int))]⟩) (fun q => σ) (fun q => a + 4 - q.1) ((a, 0)) (⟨rfl, Nat.le_refl _, Int.le_refl _, .inl ⟨rfl, rfl⟩⟩) ?_ rfl (fun q hq => ?_)
  · exact ⟨rfl, rfl, rfl, rfl, rfl, trivial⟩
  obtain ⟨i, v⟩ := q
  obtain ⟨hq1, hq2, hq3, hq4⟩ := hq
  simp only at hq1 hq2 hq3 hq4 ⊢
  have hbl := bat_lt s i
  refine AWp_seq ?_
  refine AWp_seq ?_
  -- region 3 ref.go:275
  refine AWp_regL ?_
  refine st rfl rfl rfl (op_moveO rfl rfl) ?_
  refine st rfl rfl rfl (op_moveO rfl rfl) ?_
  refine st rfl rfl rfl (op_add64 rfl rfl rfl (by omega) (by omega)) ?_
  refine st rfl rfl rfl (op_lss rfl rfl rfl) ?_
  refine AOps_nil ?_
  refine AWp_cond rfl (fun h1 => ?_) (fun h1 => ?_)
  · (try rw [h1]); (try simp only [decide_eq_true_eq, decide_eq_false_iff_not, Bool.not_eq_true', Bool.not_eq_false', Int.not_lt, Int.not_le, Bool.not_true, Bool.not_false, Int.toNat_natCast, tn1, tn2, tnn, bne_iff_ne, beq_iff_eq, beq_eq_false_iff_ne, ne_eq, Decidable.not_not] at h1)
    refine AWp_skip ?_
    refine AWp_seq ?_
    refine AWp_block ?_
    refine AWp_seq ?_
    refine AWp_seq ?_
    -- region 5 ref.go:276
    refine AWp_regL ?_
    refine st rfl rfl rfl (op_moveO rfl rfl) ?_
    refine st rfl rfl rfl (op_moveO rfl rfl) ?_
    refine st rfl rfl rfl (op_lenStr rfl rfl Tryd.underlying9 rfl) ?_
    refine st rfl rfl rfl (op_geq rfl rfl rfl) ?_
    refine AOps_nil ?_
    refine AWp_cond rfl (fun h2 => ?_) (fun h2 => ?_)
    · (try rw [h2]); (try simp only [decide_eq_true_eq, decide_eq_false_iff_not, Bool.not_eq_true', Bool.not_eq_false', Int.not_lt, Int.not_le, Bool.not_true, Bool.not_false, Int.toNat_natCast, tn1, tn2, tnn, bne_iff_ne, beq_iff_eq, beq_eq_false_iff_ne, ne_eq, Decidable.not_not] at h2)
      refine AWp_seq ?_
      -- region 6 ref.go:277
      refine AWp_regL ?_
      refine st rfl rfl rfl (op_moveO rfl rfl) ?_
      refine st rfl rfl rfl (op_assignO rfl rfl) ?_
      refine st rfl rfl rfl (op_assignO rfl rfl) ?_
      refine AOps_nil ?_
      refine AWp_ret ?_
      (try simp only [blockQ, thenQ])
      first | (have hE : rhex s a = (0, (i : Int)) := by rw [← hq1, hexF.eq_1 s i, if_pos (by omega)]; first | (rw [if_pos (by omega)]; done) | (rw [if_neg (by omega), if_pos (by omega)]; done)); rw [hE]; exact ResQ_20 rfl rfl hcl (by simp [AV.lt, AV.ltL]) (Ret_of rfl) | (have hE : rhex s a = (v, -1) := by rw [← hq1, hexF.eq_1 s i, if_neg (by omega)]); rw [hE]; exact ResQ_20 rfl rfl hcl (by simp [AV.lt, AV.ltL]) (Ret_of rfl)
    · (try rw [h2]); (try simp only [decide_eq_true_eq, decide_eq_false_iff_not, Bool.not_eq_true', Bool.not_eq_false', Int.not_lt, Int.not_le, Bool.not_true, Bool.not_false, Int.toNat_natCast, tn1, tn2, tnn, bne_iff_ne, beq_iff_eq, beq_eq_false_iff_ne, ne_eq, Decidable.not_not] at h2)
      refine AWp_skip ?_
      refine AWp_seq ?_
      -- region 7 ref.go:279
      refine AWp_regL ?_
      refine st rfl rfl rfl (op_moveO rfl rfl) ?_
      refine st rfl rfl rfl (op_moveO rfl rfl) ?_
      refine st rfl rfl rfl (op_index_strB rfl Tryd.underlying9 rfl rfl (by omega) (by omega)) ?_
      simp only [Int.toNat_natCast]
      refine st rfl rfl rfl (op_convIn rfl (by rw [Tryd.underlying5]; rfl) Tryd.underlying3 rfl (by first | rfl | exact wrap64_in (by omega) (by omega) | exact wrapu8_in (by omega) (by omega) | (simp only [IntKind.wrap]; omega))) ?_
      refine st rfl rfl rfl (op_assignO rfl rfl) ?_
      refine AOps_nil ?_
      refine AWp_seq ?_
      -- region 8 ref.go:280
      refine AWp_regL ?_
      refine st rfl rfl rfl (op_assignO rfl rfl) ?_
      refine AOps_nil ?_
      refine AWp_join (ι := Unit) (fun b => True) (fun b => ⟨[], [(0, .str s), (1, .int .i64 (a : Int)), (6, .int .i64 v), (7, .int .i64 (i : Int)), (8, .int .i64 ((bat s i).toNat : Int)), (9, .int .i64 (hd1 (bat s i).toNat))]⟩) (fun b => σ) ?_ (fun b hj => ?_)
      · skip
        refine AWp_seq ?_
        -- region 9 ref.go:281
        refine AWp_regL ?_
        refine st rfl rfl rfl (op_moveO rfl rfl) ?_
        refine st rfl rfl rfl (op_geq rfl rfl rfl) ?_
        refine st rfl rfl rfl (op_moveO rfl rfl) ?_
        refine AOps_split 28 rfl (fun h3 => ?_) (fun h3 => ?_)
        · rw [h3]; (try simp only [decide_eq_true_eq, decide_eq_false_iff_not, Bool.not_eq_true', Bool.not_eq_false', Int.not_lt, Int.not_le, Bool.not_true, Bool.not_false, Int.toNat_natCast, tn1, tn2, tnn, bne_iff_ne, beq_iff_eq, beq_eq_false_iff_ne, ne_eq, Decidable.not_not] at h3)
          refine stG rfl rfl rfl rfl rfl rfl (op_moveO rfl rfl) ?_
          refine stG rfl rfl rfl rfl rfl rfl (op_leq rfl rfl rfl) ?_
          refine st rfl rfl rfl (op_pickTO rfl rfl rfl) ?_
          refine AOps_nil ?_
          refine AWp_cond rfl (fun h4 => ?_) (fun h4 => ?_)
          · (try rw [h4]); (try simp only [decide_eq_true_eq, decide_eq_false_iff_not, Bool.not_eq_true', Bool.not_eq_false', Int.not_lt, Int.not_le, Bool.not_true, Bool.not_false, Int.toNat_natCast, tn1, tn2, tnn, bne_iff_ne, beq_iff_eq, beq_eq_false_iff_ne, ne_eq, Decidable.not_not] at h4)
            -- region 10 ref.go:282
            refine AWp_regL ?_
            refine st rfl rfl rfl (op_moveO rfl rfl) ?_
            refine st rfl rfl rfl (op_sub64 rfl rfl rfl (by omega) (by omega)) ?_
            refine st rfl rfl rfl (op_assignO rfl rfl) ?_
            refine AOps_nil ?_
            refine ⟨(), trivial, ⟨rfl, rfl, rfl, rfl, rfl, rfl, ?_, trivial⟩, rfl⟩
            unfold hd1; first | (rw [if_pos (by omega)]; rfl) | (rw [if_neg (by omega)]; rfl)
          · (try rw [h4]); (try simp only [decide_eq_true_eq, decide_eq_false_iff_not, Bool.not_eq_true', Bool.not_eq_false', Int.not_lt, Int.not_le, Bool.not_true, Bool.not_false, Int.toNat_natCast, tn1, tn2, tnn, bne_iff_ne, beq_iff_eq, beq_eq_false_iff_ne, ne_eq, Decidable.not_not] at h4)
            refine AWp_skip ?_
            refine ⟨(), trivial, ⟨rfl, rfl, rfl, rfl, rfl, rfl, ?_, trivial⟩, rfl⟩
            unfold hd1; first | (rw [if_pos (by omega)]; rfl) | (rw [if_neg (by omega)]; rfl)
        · rw [h3]; (try simp only [decide_eq_true_eq, decide_eq_false_iff_not, Bool.not_eq_true', Bool.not_eq_false', Int.not_lt, Int.not_le, Bool.not_true, Bool.not_false, Int.toNat_natCast, tn1, tn2, tnn, bne_iff_ne, beq_iff_eq, beq_eq_false_iff_ne, ne_eq, Decidable.not_not] at h3)
          refine stS rfl rfl rfl (.inl rfl) rfl rfl ?_
          refine stS rfl rfl rfl (.inl rfl) rfl rfl ?_
          refine st rfl rfl rfl (op_pickFO rfl rfl rfl) ?_
          refine AOps_nil ?_
          refine AWp_condF rfl ?_
          refine AWp_skip ?_
          refine ⟨(), trivial, ⟨rfl, rfl, rfl, rfl, rfl, rfl, ?_, trivial⟩, rfl⟩
          unfold hd1; first | (rw [if_pos (by omega)]; rfl) | (rw [if_neg (by omega)]; rfl)
      · skip
        refine AWp_join (ι := Unit) (fun b => True) (fun b => ⟨[], [(0, .str s), (1, .int .i64 (a : Int)), (6, .int .i64 v), (7, .int .i64 (i : Int)), (8, .int .i64 ((bat s i).toNat : Int)), (9, .int .i64 (hd2 (bat s i).toNat))]⟩) (fun b => σ) ?_ (fun b hj => ?_)
        · skip
          refine AWp_seq ?_
          -- region 11 ref.go:284
          refine AWp_regL ?_
          refine st rfl rfl rfl (op_moveO rfl rfl) ?_
          refine st rfl rfl rfl (op_geq rfl rfl rfl) ?_
          refine st rfl rfl rfl (op_moveO rfl rfl) ?_
          refine AOps_split 36 rfl (fun h5 => ?_) (fun h5 => ?_)
          · rw [h5]; (try simp only [decide_eq_true_eq, decide_eq_false_iff_not, Bool.not_eq_true', Bool.not_eq_false', Int.not_lt, Int.not_le, Bool.not_true, Bool.not_false, Int.toNat_natCast, tn1, tn2, tnn, bne_iff_ne, beq_iff_eq, beq_eq_false_iff_ne, ne_eq, Decidable.not_not] at h5)
            refine stG rfl rfl rfl rfl rfl rfl (op_moveO rfl rfl) ?_
            refine stG rfl rfl rfl rfl rfl rfl (op_leq rfl rfl rfl) ?_
            refine st rfl rfl rfl (op_pickTO rfl rfl rfl) ?_
            refine AOps_nil ?_
            refine AWp_cond rfl (fun h6 => ?_) (fun h6 => ?_)
            · (try rw [h6]); (try simp only [decide_eq_true_eq, decide_eq_false_iff_not, Bool.not_eq_true', Bool.not_eq_false', Int.not_lt, Int.not_le, Bool.not_true, Bool.not_false, Int.toNat_natCast, tn1, tn2, tnn, bne_iff_ne, beq_iff_eq, beq_eq_false_iff_ne, ne_eq, Decidable.not_not] at h6)
              -- region 12 ref.go:285
              refine AWp_regL ?_
              refine st rfl rfl rfl (op_moveO rfl rfl) ?_
              refine st rfl rfl rfl (op_sub64 rfl rfl rfl (by omega) (by omega)) ?_
              refine st rfl rfl rfl (op_assignO rfl rfl) ?_
              refine AOps_nil ?_
              refine ⟨(), trivial, ⟨rfl, rfl, rfl, rfl, rfl, rfl, ?_, trivial⟩, rfl⟩
              unfold hd2; first | (rw [if_pos (by omega)]; rfl) | (rw [if_neg (by omega)]; rfl)
            · (try rw [h6]); (try simp only [decide_eq_true_eq, decide_eq_false_iff_not, Bool.not_eq_true', Bool.not_eq_false', Int.not_lt, Int.not_le, Bool.not_true, Bool.not_false, Int.toNat_natCast, tn1, tn2, tnn, bne_iff_ne, beq_iff_eq, beq_eq_false_iff_ne, ne_eq, Decidable.not_not] at h6)
              refine AWp_skip ?_
              refine ⟨(), trivial, ⟨rfl, rfl, rfl, rfl, rfl, rfl, ?_, trivial⟩, rfl⟩
              unfold hd2; first | (rw [if_pos (by omega)]; rfl) | (rw [if_neg (by omega)]; rfl)
          · rw [h5]; (try simp only [decide_eq_true_eq, decide_eq_false_iff_not, Bool.not_eq_true', Bool.not_eq_false', Int.not_lt, Int.not_le, Bool.not_true, Bool.not_false, Int.toNat_natCast, tn1, tn2, tnn, bne_iff_ne, beq_iff_eq, beq_eq_false_iff_ne, ne_eq, Decidable.not_not] at h5)
            refine stS rfl rfl rfl (.inl rfl) rfl rfl ?_
            refine stS rfl rfl rfl (.inl rfl) rfl rfl ?_
            refine st rfl rfl rfl (op_pickFO rfl rfl rfl) ?_
            refine AOps_nil ?_
            refine AWp_condF rfl ?_
            refine AWp_skip ?_
            refine ⟨(), trivial, ⟨rfl, rfl, rfl, rfl, rfl, rfl, ?_, trivial⟩, rfl⟩
            unfold hd2; first | (rw [if_pos (by omega)]; rfl) | (rw [if_neg (by omega)]; rfl)
        · skip
          refine AWp_join (ι := Unit) (fun b => True) (fun b => ⟨[], [(0, .str s), (1, .int .i64 (a : Int)), (6, .int .i64 v), (7, .int .i64 (i : Int)), (8, .int .i64 ((bat s i).toNat : Int)), (9, .int .i64 (hexd (bat s i).toNat))]⟩) (fun b => σ) ?_ (fun b hj => ?_)
          · skip
            refine AWp_seq ?_
            -- region 13 ref.go:287
            refine AWp_regL ?_
            refine st rfl rfl rfl (op_moveO rfl rfl) ?_
            refine st rfl rfl rfl (op_geq rfl rfl rfl) ?_
            refine st rfl rfl rfl (op_moveO rfl rfl) ?_
            refine AOps_split 44 rfl (fun h7 => ?_) (fun h7 => ?_)
            · rw [h7]; (try simp only [decide_eq_true_eq, decide_eq_false_iff_not, Bool.not_eq_true', Bool.not_eq_false', Int.not_lt, Int.not_le, Bool.not_true, Bool.not_false, Int.toNat_natCast, tn1, tn2, tnn, bne_iff_ne, beq_iff_eq, beq_eq_false_iff_ne, ne_eq, Decidable.not_not] at h7)
              refine stG rfl rfl rfl rfl rfl rfl (op_moveO rfl rfl) ?_
              refine stG rfl rfl rfl rfl rfl rfl (op_leq rfl rfl rfl) ?_
              refine st rfl rfl rfl (op_pickTO rfl rfl rfl) ?_
              refine AOps_nil ?_
              refine AWp_cond rfl (fun h8 => ?_) (fun h8 => ?_)
              · (try rw [h8]); (try simp only [decide_eq_true_eq, decide_eq_false_iff_not, Bool.not_eq_true', Bool.not_eq_false', Int.not_lt, Int.not_le, Bool.not_true, Bool.not_false, Int.toNat_natCast, tn1, tn2, tnn, bne_iff_ne, beq_iff_eq, beq_eq_false_iff_ne, ne_eq, Decidable.not_not] at h8)
                -- region 14 ref.go:288
                refine AWp_regL ?_
                refine st rfl rfl rfl (op_moveO rfl rfl) ?_
                refine st rfl rfl rfl (op_sub64 rfl rfl rfl (by omega) (by omega)) ?_
                refine st rfl rfl rfl (op_assignO rfl rfl) ?_
                refine AOps_nil ?_
                refine ⟨(), trivial, ⟨rfl, rfl, rfl, rfl, rfl, rfl, ?_, trivial⟩, rfl⟩
                unfold hexd; first | (rw [if_pos (by omega)]; rfl) | (rw [if_neg (by omega)]; rfl)
              · (try rw [h8]); (try simp only [decide_eq_true_eq, decide_eq_false_iff_not, Bool.not_eq_true', Bool.not_eq_false', Int.not_lt, Int.not_le, Bool.not_true, Bool.not_false, Int.toNat_natCast, tn1, tn2, tnn, bne_iff_ne, beq_iff_eq, beq_eq_false_iff_ne, ne_eq, Decidable.not_not] at h8)
                refine AWp_skip ?_
                refine ⟨(), trivial, ⟨rfl, rfl, rfl, rfl, rfl, rfl, ?_, trivial⟩, rfl⟩
                unfold hexd; first | (rw [if_pos (by omega)]; rfl) | (rw [if_neg (by omega)]; rfl)
            · rw [h7]; (try simp only [decide_eq_true_eq, decide_eq_false_iff_not, Bool.not_eq_true', Bool.not_eq_false', Int.not_lt, Int.not_le, Bool.not_true, Bool.not_false, Int.toNat_natCast, tn1, tn2, tnn, bne_iff_ne, beq_iff_eq, beq_eq_false_iff_ne, ne_eq, Decidable.not_not] at h7)
              refine stS rfl rfl rfl (.inl rfl) rfl rfl ?_
              refine stS rfl rfl rfl (.inl rfl) rfl rfl ?_
              refine st rfl rfl rfl (op_pickFO rfl rfl rfl) ?_
              refine AOps_nil ?_
              refine AWp_condF rfl ?_
              refine AWp_skip ?_
              refine ⟨(), trivial, ⟨rfl, rfl, rfl, rfl, rfl, rfl, ?_, trivial⟩, rfl⟩
              unfold hexd; first | (rw [if_pos (by omega)]; rfl) | (rw [if_neg (by omega)]; rfl)
          · skip
            have hdd := hexd_lt (bat s i).toNat
            refine AWp_seq ?_
            refine AWp_seq ?_
            -- region 15 ref.go:290
            refine AWp_regL ?_
            refine st rfl rfl rfl (op_moveO rfl rfl) ?_
            refine st rfl rfl rfl (op_lss rfl rfl rfl) ?_
            refine AOps_nil ?_
            refine AWp_cond rfl (fun h9 => ?_) (fun h9 => ?_)
            · (try rw [h9]); (try simp only [decide_eq_true_eq, decide_eq_false_iff_not, Bool.not_eq_true', Bool.not_eq_false', Int.not_lt, Int.not_le, Bool.not_true, Bool.not_false, Int.toNat_natCast, tn1, tn2, tnn, bne_iff_ne, beq_iff_eq, beq_eq_false_iff_ne, ne_eq, Decidable.not_not] at h9)
              refine AWp_seq ?_
              -- region 16 ref.go:291
              refine AWp_regL ?_
              refine st rfl rfl rfl (op_moveO rfl rfl) ?_
              refine st rfl rfl rfl (op_assignO rfl rfl) ?_
              refine st rfl rfl rfl (op_assignO rfl rfl) ?_
              refine AOps_nil ?_
              refine AWp_ret ?_
              (try simp only [blockQ, thenQ])
              first | (have hE : rhex s a = (0, (i : Int)) := by rw [← hq1, hexF.eq_1 s i, if_pos (by omega)]; first | (rw [if_pos (by omega)]; done) | (rw [if_neg (by omega), if_pos (by omega)]; done)); rw [hE]; exact ResQ_20 rfl rfl hcl (by simp [AV.lt, AV.ltL]) (Ret_of rfl) | (have hE : rhex s a = (v, -1) := by rw [← hq1, hexF.eq_1 s i, if_neg (by omega)]); rw [hE]; exact ResQ_20 rfl rfl hcl (by simp [AV.lt, AV.ltL]) (Ret_of rfl)
            · (try rw [h9]); (try simp only [decide_eq_true_eq, decide_eq_false_iff_not, Bool.not_eq_true', Bool.not_eq_false', Int.not_lt, Int.not_le, Bool.not_true, Bool.not_false, Int.toNat_natCast, tn1, tn2, tnn, bne_iff_ne, beq_iff_eq, beq_eq_false_iff_ne, ne_eq, Decidable.not_not] at h9)
              refine AWp_skip ?_
              -- region 17 ref.go:293
              refine AWp_regL ?_
              refine st rfl rfl rfl (op_moveO rfl rfl) ?_
              refine st rfl rfl rfl (op_mul64 rfl rfl rfl (by omega) (by omega)) ?_
              refine st rfl rfl rfl (op_moveO rfl rfl) ?_
              refine st rfl rfl rfl (op_add64 rfl rfl rfl (by omega) (by omega)) ?_
              refine st rfl rfl rfl (op_assignO rfl rfl) ?_
              refine AOps_nil ?_
              -- region 4 ref.go:275
              refine AWp_regL ?_
              refine st rfl rfl rfl (op_moveO rfl rfl) ?_
              refine st rfl rfl rfl (op_add64 rfl rfl rfl (by omega) (by omega)) ?_
              refine st rfl rfl rfl (op_assignO rfl rfl) ?_
              refine AOps_nil ?_
              refine ⟨(i + 1, 16 * v + hexd (bat s i).toNat), σ.length, ⟨?_, ?_, ?_, ?_⟩, ?_, Nat.le_refl _, ⟨rfl, rfl, rfl, rfl, rfl, trivial⟩, hcl, ?_, List.take_length⟩
              · rw [← hq1, hexF.eq_1 s i, if_pos (by omega), if_neg (by omega), if_neg (by omega)]
              · simp only; omega
              · simp only; omega
              · simp only; omega
              · simp only; omega
              · simp [ltE, AV.lt]
  · (try rw [h1]); (try simp only [decide_eq_true_eq, decide_eq_false_iff_not, Bool.not_eq_true', Bool.not_eq_false', Int.not_lt, Int.not_le, Bool.not_true, Bool.not_false, Int.toNat_natCast, tn1, tn2, tnn, bne_iff_ne, beq_iff_eq, beq_eq_false_iff_ne, ne_eq, Decidable.not_not] at h1)
    refine AWp_exit ?_
    refine AWp_seq ?_
    -- region 18 ref.go:295
    refine AWp_regL ?_
    refine st rfl rfl rfl (op_moveO rfl rfl) ?_
    refine st rfl rfl rfl (op_assignO rfl rfl) ?_
    refine st rfl rfl rfl (op_assignO rfl rfl) ?_
    refine AOps_nil ?_
    refine AWp_ret ?_
    (try simp only [blockQ, thenQ])
    first | (have hE : rhex s a = (0, (i : Int)) := by rw [← hq1, hexF.eq_1 s i, if_pos (by omega)]; first | (rw [if_pos (by omega)]; done) | (rw [if_neg (by omega), if_pos (by omega)]; done)); rw [hE]; exact ResQ_20 rfl rfl hcl (by simp [AV.lt, AV.ltL]) (Ret_of rfl) | (have hE : rhex s a = (v, -1) := by rw [← hq1, hexF.eq_1 s i, if_neg (by omega)]); rw [hE]; exact ResQ_20 rfl rfl hcl (by simp [AV.lt, AV.ltL]) (Ret_of rfl)

theorem low_c (s : ByteArray) (a : Nat) (σ : List AO) (hs : s.size ≤ 1000000) (ha : a ≤ 2000000) : ACalls Tryd.prog 45 [.str s, .int .i64 (a : Int)] σ (Ret (.int .i64 (rlow s a)) σ) := by
  refine ACalls_body Tryd.func45 rfl Tryd.ntmps45 (res1 Tryd.results45) (Nat.le_of_ble_eq_true rfl) (fun hcl hal => ?_)
  have hh := rhex_ok s (a + 2)
  refine AWp_seq ?_
  -- region 0 ref.go:299
  refine AWp_regL ?_
  refine st rfl rfl rfl (op_assignO rfl rfl) ?_
  refine AOps_nil ?_
  refine AWp_seq ?_
  refine AWp_seq ?_
  -- region 1 ref.go:300
  refine AWp_regL ?_
  refine st rfl rfl rfl (op_moveO rfl rfl) ?_
  refine st rfl rfl rfl (op_add64 rfl rfl rfl (by omega) (by omega)) ?_
  refine st rfl rfl rfl (op_moveO rfl rfl) ?_
  refine st rfl rfl rfl (op_lenStr rfl rfl Tryd.underlying9 rfl) ?_
  refine st rfl rfl rfl (op_gtr rfl rfl rfl) ?_
  refine AOps_nil ?_
  refine AWp_cond rfl (fun h1 => ?_) (fun h1 => ?_)
  · (try rw [h1]); (try simp only [decide_eq_true_eq, decide_eq_false_iff_not, Bool.not_eq_true', Bool.not_eq_false', Int.not_lt, Int.not_le, Bool.not_true, Bool.not_false, Int.toNat_natCast, tn1, tn2, tnn, bne_iff_ne, beq_iff_eq, beq_eq_false_iff_ne, ne_eq, Decidable.not_not] at h1)
    refine AWp_seq ?_
    -- region 2 ref.go:301
    refine AWp_regL ?_
    refine st rfl rfl rfl (op_assignO rfl rfl) ?_
    refine AOps_nil ?_
    refine AWp_ret ?_
    (try simp only [blockQ, thenQ])
    refine ResQ_10 rfl hcl (by simp [AV.lt, AV.ltL]) (Ret_of ?_)
    congr 1; unfold rlow; first | (rw [if_pos (by omega)]; done) | (rw [if_neg (by omega), if_pos (by omega)]; done) | (rw [if_neg (by omega), if_neg (by omega), if_pos (by omega)]; done) | (rw [if_neg (by omega), if_neg (by omega), if_neg (by omega)]; done)
  · (try rw [h1]); (try simp only [decide_eq_true_eq, decide_eq_false_iff_not, Bool.not_eq_true', Bool.not_eq_false', Int.not_lt, Int.not_le, Bool.not_true, Bool.not_false, Int.toNat_natCast, tn1, tn2, tnn, bne_iff_ne, beq_iff_eq, beq_eq_false_iff_ne, ne_eq, Decidable.not_not] at h1)
    refine AWp_skip ?_
    refine AWp_seq ?_
    refine AWp_seq ?_
    -- region 3 ref.go:303
    refine AWp_regL ?_
    refine st rfl rfl rfl (op_moveO rfl rfl) ?_
    refine st rfl rfl rfl (op_moveO rfl rfl) ?_
    refine st rfl rfl rfl (op_index_strB rfl Tryd.underlying9 rfl rfl (by omega) (by omega)) ?_
    refine st rfl rfl rfl (op_neq rfl rfl rfl) ?_
    refine st rfl rfl rfl (op_moveO rfl rfl) ?_
    refine AOps_split 16 rfl (fun h2 => ?_) (fun h2 => ?_)
    · rw [h2]; (try simp only [decide_eq_true_eq, decide_eq_false_iff_not, Bool.not_eq_true', Bool.not_eq_false', Int.not_lt, Int.not_le, Bool.not_true, Bool.not_false, Int.toNat_natCast, tn1, tn2, tnn, bne_iff_ne, beq_iff_eq, beq_eq_false_iff_ne, ne_eq, Decidable.not_not] at h2)
      refine stS rfl rfl rfl (.inl rfl) rfl rfl ?_
      refine stS rfl rfl rfl (.inl rfl) rfl rfl ?_
      refine stS rfl rfl rfl (.inl rfl) rfl rfl ?_
      refine stS rfl rfl rfl (.inl rfl) rfl rfl ?_
      refine stS rfl rfl rfl (.inl rfl) rfl rfl ?_
      refine st rfl rfl rfl (op_pickTO rfl rfl rfl) ?_
      refine AOps_nil ?_
      refine AWp_condT rfl ?_
      refine AWp_seq ?_
      -- region 4 ref.go:304
      refine AWp_regL ?_
      refine st rfl rfl rfl (op_assignO rfl rfl) ?_
      refine AOps_nil ?_
      refine AWp_ret ?_
      (try simp only [blockQ, thenQ])
      refine ResQ_10 rfl hcl (by simp [AV.lt, AV.ltL]) (Ret_of ?_)
      congr 1; unfold rlow; first | (rw [if_pos (by omega)]; done) | (rw [if_neg (by omega), if_pos (by omega)]; done) | (rw [if_neg (by omega), if_neg (by omega), if_pos (by omega)]; done) | (rw [if_neg (by omega), if_neg (by omega), if_neg (by omega)]; done)
    · rw [h2]; (try simp only [decide_eq_true_eq, decide_eq_false_iff_not, Bool.not_eq_true', Bool.not_eq_false', Int.not_lt, Int.not_le, Bool.not_true, Bool.not_false, Int.toNat_natCast, tn1, tn2, tnn, bne_iff_ne, beq_iff_eq, beq_eq_false_iff_ne, ne_eq, Decidable.not_not] at h2)
      refine stG rfl rfl rfl rfl rfl rfl (op_moveO rfl rfl) ?_
      refine stG rfl rfl rfl rfl rfl rfl (op_moveO rfl rfl) ?_
      refine stG rfl rfl rfl rfl rfl rfl (op_add64 rfl rfl rfl (by omega) (by omega)) ?_
      refine stG rfl rfl rfl rfl rfl rfl (op_index_strB rfl Tryd.underlying9 rfl rfl (by omega) (by omega)) ?_
      refine stG rfl rfl rfl rfl rfl rfl (op_neq rfl rfl rfl) ?_
      refine st rfl rfl rfl (op_pickFO rfl rfl rfl) ?_
      refine AOps_nil ?_
      refine AWp_cond rfl (fun h3 => ?_) (fun h3 => ?_)
      · (try rw [h3]); (try simp only [decide_eq_true_eq, decide_eq_false_iff_not, Bool.not_eq_true', Bool.not_eq_false', Int.not_lt, Int.not_le, Bool.not_true, Bool.not_false, Int.toNat_natCast, tn1, tn2, tnn, bne_iff_ne, beq_iff_eq, beq_eq_false_iff_ne, ne_eq, Decidable.not_not] at h3)
        refine AWp_seq ?_
        -- region 4 ref.go:304
        refine AWp_regL ?_
        refine st rfl rfl rfl (op_assignO rfl rfl) ?_
        refine AOps_nil ?_
        refine AWp_ret ?_
        (try simp only [blockQ, thenQ])
        refine ResQ_10 rfl hcl (by simp [AV.lt, AV.ltL]) (Ret_of ?_)
        congr 1; unfold rlow; first | (rw [if_pos (by omega)]; done) | (rw [if_neg (by omega), if_pos (by omega)]; done) | (rw [if_neg (by omega), if_neg (by omega), if_pos (by omega)]; done) | (rw [if_neg (by omega), if_neg (by omega), if_neg (by omega)]; done)
      · (try rw [h3]); (try simp only [decide_eq_true_eq, decide_eq_false_iff_not, Bool.not_eq_true', Bool.not_eq_false', Int.not_lt, Int.not_le, Bool.not_true, Bool.not_false, Int.toNat_natCast, tn1, tn2, tnn, bne_iff_ne, beq_iff_eq, beq_eq_false_iff_ne, ne_eq, Decidable.not_not] at h3)
        refine AWp_skip ?_
        refine AWp_seq ?_
        -- region 5 ref.go:306
        refine AWp_regL ?_
        refine st rfl rfl rfl (op_moveO rfl rfl) ?_
        refine st rfl rfl rfl (op_moveO rfl rfl) ?_
        refine st rfl rfl rfl (op_add64 rfl rfl rfl (by omega) (by omega)) ?_
        refine st rfl rfl rfl (op_callF rfl rfl rfl Tryd.func44 rfl rfl (hex_c s (a + 2) _ hs (by omega))) ?_
        refine st rfl rfl rfl (op_moveO rfl rfl) ?_
        refine st rfl rfl rfl (op_extract rfl rfl rfl) ?_
        refine st rfl rfl rfl (op_extract rfl rfl rfl) ?_
        refine st rfl rfl rfl (op_assignO rfl rfl) ?_
        refine st rfl rfl rfl (op_assignO rfl rfl) ?_
        refine AOps_nil ?_
        refine AWp_seq ?_
        refine AWp_seq ?_
        -- region 6 ref.go:307
        refine AWp_regL ?_
        refine st rfl rfl rfl (op_moveO rfl rfl) ?_
        refine st rfl rfl rfl (op_geq rfl rfl rfl) ?_
        refine st rfl rfl rfl (op_moveO rfl rfl) ?_
        refine AOps_split 32 rfl (fun h4 => ?_) (fun h4 => ?_)
        · rw [h4]; (try simp only [decide_eq_true_eq, decide_eq_false_iff_not, Bool.not_eq_true', Bool.not_eq_false', Int.not_lt, Int.not_le, Bool.not_true, Bool.not_false, Int.toNat_natCast, tn1, tn2, tnn, bne_iff_ne, beq_iff_eq, beq_eq_false_iff_ne, ne_eq, Decidable.not_not] at h4)
          refine stS rfl rfl rfl (.inl rfl) rfl rfl ?_
          refine stS rfl rfl rfl (.inl rfl) rfl rfl ?_
          refine st rfl rfl rfl (op_pickTO rfl rfl rfl) ?_
          refine st rfl rfl rfl (op_moveO rfl rfl) ?_
          refine stS rfl rfl rfl (.inl rfl) rfl rfl ?_
          refine stS rfl rfl rfl (.inl rfl) rfl rfl ?_
          refine st rfl rfl rfl (op_pickTO rfl rfl rfl) ?_
          refine AOps_nil ?_
          refine AWp_condT rfl ?_
          refine AWp_seq ?_
          -- region 7 ref.go:308
          refine AWp_regL ?_
          refine st rfl rfl rfl (op_assignO rfl rfl) ?_
          refine AOps_nil ?_
          refine AWp_ret ?_
          (try simp only [blockQ, thenQ])
          refine ResQ_10 rfl hcl (by simp [AV.lt, AV.ltL]) (Ret_of ?_)
          congr 1; unfold rlow; first | (rw [if_pos (by omega)]; done) | (rw [if_neg (by omega), if_pos (by omega)]; done) | (rw [if_neg (by omega), if_neg (by omega), if_pos (by omega)]; done) | (rw [if_neg (by omega), if_neg (by omega), if_neg (by omega)]; done)
        · rw [h4]; (try simp only [decide_eq_true_eq, decide_eq_false_iff_not, Bool.not_eq_true', Bool.not_eq_false', Int.not_lt, Int.not_le, Bool.not_true, Bool.not_false, Int.toNat_natCast, tn1, tn2, tnn, bne_iff_ne, beq_iff_eq, beq_eq_false_iff_ne, ne_eq, Decidable.not_not] at h4)
          refine stG rfl rfl rfl rfl rfl rfl (op_moveO rfl rfl) ?_
          refine stG rfl rfl rfl rfl rfl rfl (op_lss rfl rfl rfl) ?_
          refine st rfl rfl rfl (op_pickFO rfl rfl rfl) ?_
          refine st rfl rfl rfl (op_moveO rfl rfl) ?_
          refine AOps_split 36 rfl (fun h5 => ?_) (fun h5 => ?_)
          · rw [h5]; (try simp only [decide_eq_true_eq, decide_eq_false_iff_not, Bool.not_eq_true', Bool.not_eq_false', Int.not_lt, Int.not_le, Bool.not_true, Bool.not_false, Int.toNat_natCast, tn1, tn2, tnn, bne_iff_ne, beq_iff_eq, beq_eq_false_iff_ne, ne_eq, Decidable.not_not] at h5)
            refine stS rfl rfl rfl (.inl rfl) rfl rfl ?_
            refine stS rfl rfl rfl (.inl rfl) rfl rfl ?_
            refine st rfl rfl rfl (op_pickTO rfl rfl rfl) ?_
            refine AOps_nil ?_
            refine AWp_condT rfl ?_
            refine AWp_seq ?_
            -- region 7 ref.go:308
            refine AWp_regL ?_
            refine st rfl rfl rfl (op_assignO rfl rfl) ?_
            refine AOps_nil ?_
            refine AWp_ret ?_
            (try simp only [blockQ, thenQ])
            refine ResQ_10 rfl hcl (by simp [AV.lt, AV.ltL]) (Ret_of ?_)
            congr 1; unfold rlow; first | (rw [if_pos (by omega)]; done) | (rw [if_neg (by omega), if_pos (by omega)]; done) | (rw [if_neg (by omega), if_neg (by omega), if_pos (by omega)]; done) | (rw [if_neg (by omega), if_neg (by omega), if_neg (by omega)]; done)
          · rw [h5]; (try simp only [decide_eq_true_eq, decide_eq_false_iff_not, Bool.not_eq_true', Bool.not_eq_false', Int.not_lt, Int.not_le, Bool.not_true, Bool.not_false, Int.toNat_natCast, tn1, tn2, tnn, bne_iff_ne, beq_iff_eq, beq_eq_false_iff_ne, ne_eq, Decidable.not_not] at h5)
            refine stG rfl rfl rfl rfl rfl rfl (op_moveO rfl rfl) ?_
            refine stG rfl rfl rfl rfl rfl rfl (op_geq rfl rfl rfl) ?_
            refine st rfl rfl rfl (op_pickFO rfl rfl rfl) ?_
            refine AOps_nil ?_
            refine AWp_cond rfl (fun h6 => ?_) (fun h6 => ?_)
            · (try rw [h6]); (try simp only [decide_eq_true_eq, decide_eq_false_iff_not, Bool.not_eq_true', Bool.not_eq_false', Int.not_lt, Int.not_le, Bool.not_true, Bool.not_false, Int.toNat_natCast, tn1, tn2, tnn, bne_iff_ne, beq_iff_eq, beq_eq_false_iff_ne, ne_eq, Decidable.not_not] at h6)
              refine AWp_seq ?_
              -- region 7 ref.go:308
              refine AWp_regL ?_
              refine st rfl rfl rfl (op_assignO rfl rfl) ?_
              refine AOps_nil ?_
              refine AWp_ret ?_
              (try simp only [blockQ, thenQ])
              refine ResQ_10 rfl hcl (by simp [AV.lt, AV.ltL]) (Ret_of ?_)
              congr 1; unfold rlow; first | (rw [if_pos (by omega)]; done) | (rw [if_neg (by omega), if_pos (by omega)]; done) | (rw [if_neg (by omega), if_neg (by omega), if_pos (by omega)]; done) | (rw [if_neg (by omega), if_neg (by omega), if_neg (by omega)]; done)
            · (try rw [h6]); (try simp only [decide_eq_true_eq, decide_eq_false_iff_not, Bool.not_eq_true', Bool.not_eq_false', Int.not_lt, Int.not_le, Bool.not_true, Bool.not_false, Int.toNat_natCast, tn1, tn2, tnn, bne_iff_ne, beq_iff_eq, beq_eq_false_iff_ne, ne_eq, Decidable.not_not] at h6)
              refine AWp_skip ?_
              refine AWp_seq ?_
              -- region 8 ref.go:310
              refine AWp_regL ?_
              refine st rfl rfl rfl (op_moveO rfl rfl) ?_
              refine st rfl rfl rfl (op_assignO rfl rfl) ?_
              refine AOps_nil ?_
              refine AWp_ret ?_
              (try simp only [blockQ, thenQ])
              refine ResQ_10 rfl hcl (by simp [AV.lt, AV.ltL]) (Ret_of ?_)
              congr 1; unfold rlow; first | (rw [if_pos (by omega)]; done) | (rw [if_neg (by omega), if_pos (by omega)]; done) | (rw [if_neg (by omega), if_neg (by omega), if_pos (by omega)]; done) | (rw [if_neg (by omega), if_neg (by omega), if_neg (by omega)]; done)

theorem char_c (v : Int) (σ : List AO) (h0 : 0 ≤ v) (h1 : v < 1114112) : ACalls Tryd.prog 46 [.int .i64 v] σ (Ret (.str (rchar v)) σ) := by
  refine ACalls_body Tryd.func46 rfl Tryd.ntmps46 (res1 Tryd.results46) (Nat.le_of_ble_eq_true rfl) (fun hcl hal => ?_)
  refine AWp_seq ?_
  -- region 0 ref.go:259
  refine AWp_regL ?_
  refine st rfl rfl rfl (op_assignO rfl rfl) ?_
  refine AOps_nil ?_
  refine AWp_seq ?_
  refine AWp_seq ?_
  -- region 1 ref.go:260
  refine AWp_regL ?_
  refine st rfl rfl rfl (op_moveO rfl rfl) ?_
  refine st rfl rfl rfl (op_lss rfl rfl rfl) ?_
  refine AOps_nil ?_
  refine AWp_cond rfl (fun h1 => ?_) (fun h1 => ?_)
  · (try rw [h1]); (try simp only [decide_eq_true_eq, decide_eq_false_iff_not, Bool.not_eq_true', Bool.not_eq_false', Int.not_lt, Int.not_le, Bool.not_true, Bool.not_false, Int.toNat_natCast, bne_iff_ne, beq_iff_eq, beq_eq_false_iff_ne, ne_eq, Decidable.not_not] at h1)
    refine AWp_seq ?_
    -- region 2 ref.go:261
    refine AWp_regL ?_
    refine st rfl rfl rfl (op_moveO rfl rfl) ?_
    refine st rfl rfl rfl (op_convIn rfl (by rw [Tryd.underlying3]; rfl) Tryd.underlying5 rfl (by first | rfl | exact wrap64_in (by omega) (by omega) | exact wrapu8_in (by omega) (by omega) | (simp only [IntKind.wrap]; omega))) ?_
    refine st rfl rfl rfl (op_buildSlice [[_]] rfl Tryd.underlying64 Tryd.sizeOf5 Tryd.zeroValue5 rfl (by decide) (by decide) rfl rfl rfl rfl rfl) ?_
    refine st rfl rfl rfl (op_bytesStr (b := _) (m := 1) rfl Tryd.underlying64 Tryd.underlying5 Tryd.underlying9 (bs1 ⟨by omega, by omega⟩) rfl rfl) ?_
    refine st rfl rfl rfl (op_assignO rfl rfl) ?_
    refine AOps_nil ?_
    refine AWp_ret ?_
    (try simp only [blockQ, thenQ])
    refine ResQ_10 rfl hcl (by simp [AV.lt, AV.ltL]) (Ret_of ?_)
    congr 1; unfold rchar; first | (rw [if_pos (by omega)]; done) | (rw [if_neg (by omega), if_pos (by omega)]; done) | (rw [if_neg (by omega), if_neg (by omega), if_pos (by omega)]; done) | (rw [if_neg (by omega), if_neg (by omega), if_neg (by omega)]; done)
  · (try rw [h1]); (try simp only [decide_eq_true_eq, decide_eq_false_iff_not, Bool.not_eq_true', Bool.not_eq_false', Int.not_lt, Int.not_le, Bool.not_true, Bool.not_false, Int.toNat_natCast, bne_iff_ne, beq_iff_eq, beq_eq_false_iff_ne, ne_eq, Decidable.not_not] at h1)
    refine AWp_skip ?_
    refine AWp_seq ?_
    refine AWp_seq ?_
    -- region 3 ref.go:263
    refine AWp_regL ?_
    refine st rfl rfl rfl (op_moveO rfl rfl) ?_
    refine st rfl rfl rfl (op_lss rfl rfl rfl) ?_
    refine AOps_nil ?_
    refine AWp_cond rfl (fun h2 => ?_) (fun h2 => ?_)
    · (try rw [h2]); (try simp only [decide_eq_true_eq, decide_eq_false_iff_not, Bool.not_eq_true', Bool.not_eq_false', Int.not_lt, Int.not_le, Bool.not_true, Bool.not_false, Int.toNat_natCast, bne_iff_ne, beq_iff_eq, beq_eq_false_iff_ne, ne_eq, Decidable.not_not] at h2)
      refine AWp_seq ?_
      -- region 4 ref.go:264
      refine AWp_regL ?_
      refine st rfl rfl rfl (op_moveO rfl rfl) ?_
      refine st rfl rfl rfl (op_quo64 rfl rfl rfl (by omega) (by omega) (by omega)) ?_
      refine st rfl rfl rfl (op_add64 rfl rfl rfl (by omega) (by omega)) ?_
      refine st rfl rfl rfl (op_convIn rfl (by rw [Tryd.underlying3]; rfl) Tryd.underlying5 rfl (by first | rfl | exact wrap64_in (by omega) (by omega) | exact wrapu8_in (by omega) (by omega) | (simp only [IntKind.wrap]; omega))) ?_
      refine st rfl rfl rfl (op_moveO rfl rfl) ?_
      refine st rfl rfl rfl (op_rem64 rfl rfl rfl (by omega) (by omega)) ?_
      refine st rfl rfl rfl (op_add64 rfl rfl rfl (by omega) (by omega)) ?_
      refine st rfl rfl rfl (op_convIn rfl (by rw [Tryd.underlying3]; rfl) Tryd.underlying5 rfl (by first | rfl | exact wrap64_in (by omega) (by omega) | exact wrapu8_in (by omega) (by omega) | (simp only [IntKind.wrap]; omega))) ?_
      refine st rfl rfl rfl (op_buildSlice [[_], [_]] rfl Tryd.underlying64 Tryd.sizeOf5 Tryd.zeroValue5 rfl (by decide) (by decide) rfl rfl rfl rfl rfl) ?_
      refine st rfl rfl rfl (op_bytesStr (b := _) (m := 2) rfl Tryd.underlying64 Tryd.underlying5 Tryd.underlying9 (bs2 ⟨by omega, by omega⟩ ⟨by omega, by omega⟩) rfl rfl) ?_
      refine st rfl rfl rfl (op_assignO rfl rfl) ?_
      refine AOps_nil ?_
      refine AWp_ret ?_
      (try simp only [blockQ, thenQ])
      refine ResQ_10 rfl hcl (by simp [AV.lt, AV.ltL]) (Ret_of ?_)
      congr 1; unfold rchar; first | (rw [if_pos (by omega)]; done) | (rw [if_neg (by omega), if_pos (by omega)]; done) | (rw [if_neg (by omega), if_neg (by omega), if_pos (by omega)]; done) | (rw [if_neg (by omega), if_neg (by omega), if_neg (by omega)]; done)
    · (try rw [h2]); (try simp only [decide_eq_true_eq, decide_eq_false_iff_not, Bool.not_eq_true', Bool.not_eq_false', Int.not_lt, Int.not_le, Bool.not_true, Bool.not_false, Int.toNat_natCast, bne_iff_ne, beq_iff_eq, beq_eq_false_iff_ne, ne_eq, Decidable.not_not] at h2)
      refine AWp_skip ?_
      refine AWp_seq ?_
      refine AWp_seq ?_
      -- region 5 ref.go:266
      refine AWp_regL ?_
      refine st rfl rfl rfl (op_moveO rfl rfl) ?_
      refine st rfl rfl rfl (op_lss rfl rfl rfl) ?_
      refine AOps_nil ?_
      refine AWp_cond rfl (fun h3 => ?_) (fun h3 => ?_)
      · (try rw [h3]); (try simp only [decide_eq_true_eq, decide_eq_false_iff_not, Bool.not_eq_true', Bool.not_eq_false', Int.not_lt, Int.not_le, Bool.not_true, Bool.not_false, Int.toNat_natCast, bne_iff_ne, beq_iff_eq, beq_eq_false_iff_ne, ne_eq, Decidable.not_not] at h3)
        refine AWp_seq ?_
        -- region 6 ref.go:267
        refine AWp_regL ?_
        refine st rfl rfl rfl (op_moveO rfl rfl) ?_
        refine st rfl rfl rfl (op_quo64 rfl rfl rfl (by omega) (by omega) (by omega)) ?_
        refine st rfl rfl rfl (op_add64 rfl rfl rfl (by omega) (by omega)) ?_
        refine st rfl rfl rfl (op_convIn rfl (by rw [Tryd.underlying3]; rfl) Tryd.underlying5 rfl (by first | rfl | exact wrap64_in (by omega) (by omega) | exact wrapu8_in (by omega) (by omega) | (simp only [IntKind.wrap]; omega))) ?_
        refine st rfl rfl rfl (op_moveO rfl rfl) ?_
        refine st rfl rfl rfl (op_quo64 rfl rfl rfl (by omega) (by omega) (by omega)) ?_
        refine st rfl rfl rfl (op_rem64 rfl rfl rfl (by omega) (by omega)) ?_
        refine st rfl rfl rfl (op_add64 rfl rfl rfl (by omega) (by omega)) ?_
        refine st rfl rfl rfl (op_convIn rfl (by rw [Tryd.underlying3]; rfl) Tryd.underlying5 rfl (by first | rfl | exact wrap64_in (by omega) (by omega) | exact wrapu8_in (by omega) (by omega) | (simp only [IntKind.wrap]; omega))) ?_
        refine st rfl rfl rfl (op_moveO rfl rfl) ?_
        refine st rfl rfl rfl (op_rem64 rfl rfl rfl (by omega) (by omega)) ?_
        refine st rfl rfl rfl (op_add64 rfl rfl rfl (by omega) (by omega)) ?_
        refine st rfl rfl rfl (op_convIn rfl (by rw [Tryd.underlying3]; rfl) Tryd.underlying5 rfl (by first | rfl | exact wrap64_in (by omega) (by omega) | exact wrapu8_in (by omega) (by omega) | (simp only [IntKind.wrap]; omega))) ?_
        refine st rfl rfl rfl (op_buildSlice [[_], [_], [_]] rfl Tryd.underlying64 Tryd.sizeOf5 Tryd.zeroValue5 rfl (by decide) (by decide) rfl rfl rfl rfl rfl) ?_
        refine st rfl rfl rfl (op_bytesStr (b := _) (m := 3) rfl Tryd.underlying64 Tryd.underlying5 Tryd.underlying9 (bs3 ⟨by omega, by omega⟩ ⟨by omega, by omega⟩ ⟨by omega, by omega⟩) rfl rfl) ?_
        refine st rfl rfl rfl (op_assignO rfl rfl) ?_
        refine AOps_nil ?_
        refine AWp_ret ?_
        (try simp only [blockQ, thenQ])
        refine ResQ_10 rfl hcl (by simp [AV.lt, AV.ltL]) (Ret_of ?_)
        congr 1; unfold rchar; first | (rw [if_pos (by omega)]; done) | (rw [if_neg (by omega), if_pos (by omega)]; done) | (rw [if_neg (by omega), if_neg (by omega), if_pos (by omega)]; done) | (rw [if_neg (by omega), if_neg (by omega), if_neg (by omega)]; done)
      · (try rw [h3]); (try simp only [decide_eq_true_eq, decide_eq_false_iff_not, Bool.not_eq_true', Bool.not_eq_false', Int.not_lt, Int.not_le, Bool.not_true, Bool.not_false, Int.toNat_natCast, bne_iff_ne, beq_iff_eq, beq_eq_false_iff_ne, ne_eq, Decidable.not_not] at h3)
        refine AWp_skip ?_
        refine AWp_seq ?_
        -- region 7 ref.go:269
        refine AWp_regL ?_
        refine st rfl rfl rfl (op_moveO rfl rfl) ?_
        refine st rfl rfl rfl (op_quo64 rfl rfl rfl (by omega) (by omega) (by omega)) ?_
        refine st rfl rfl rfl (op_add64 rfl rfl rfl (by omega) (by omega)) ?_
        refine st rfl rfl rfl (op_convIn rfl (by rw [Tryd.underlying3]; rfl) Tryd.underlying5 rfl (by first | rfl | exact wrap64_in (by omega) (by omega) | exact wrapu8_in (by omega) (by omega) | (simp only [IntKind.wrap]; omega))) ?_
        refine st rfl rfl rfl (op_moveO rfl rfl) ?_
        refine st rfl rfl rfl (op_quo64 rfl rfl rfl (by omega) (by omega) (by omega)) ?_
        refine st rfl rfl rfl (op_rem64 rfl rfl rfl (by omega) (by omega)) ?_
        refine st rfl rfl rfl (op_add64 rfl rfl rfl (by omega) (by omega)) ?_
        refine st rfl rfl rfl (op_convIn rfl (by rw [Tryd.underlying3]; rfl) Tryd.underlying5 rfl (by first | rfl | exact wrap64_in (by omega) (by omega) | exact wrapu8_in (by omega) (by omega) | (simp only [IntKind.wrap]; omega))) ?_
        refine st rfl rfl rfl (op_moveO rfl rfl) ?_
        refine st rfl rfl rfl (op_quo64 rfl rfl rfl (by omega) (by omega) (by omega)) ?_
        refine st rfl rfl rfl (op_rem64 rfl rfl rfl (by omega) (by omega)) ?_
        refine st rfl rfl rfl (op_add64 rfl rfl rfl (by omega) (by omega)) ?_
        refine st rfl rfl rfl (op_convIn rfl (by rw [Tryd.underlying3]; rfl) Tryd.underlying5 rfl (by first | rfl | exact wrap64_in (by omega) (by omega) | exact wrapu8_in (by omega) (by omega) | (simp only [IntKind.wrap]; omega))) ?_
        refine st rfl rfl rfl (op_moveO rfl rfl) ?_
        refine st rfl rfl rfl (op_rem64 rfl rfl rfl (by omega) (by omega)) ?_
        refine st rfl rfl rfl (op_add64 rfl rfl rfl (by omega) (by omega)) ?_
        refine st rfl rfl rfl (op_convIn rfl (by rw [Tryd.underlying3]; rfl) Tryd.underlying5 rfl (by first | rfl | exact wrap64_in (by omega) (by omega) | exact wrapu8_in (by omega) (by omega) | (simp only [IntKind.wrap]; omega))) ?_
        refine st rfl rfl rfl (op_buildSlice [[_], [_], [_], [_]] rfl Tryd.underlying64 Tryd.sizeOf5 Tryd.zeroValue5 rfl (by decide) (by decide) rfl rfl rfl rfl rfl) ?_
        refine st rfl rfl rfl (op_bytesStr (b := _) (m := 4) rfl Tryd.underlying64 Tryd.underlying5 Tryd.underlying9 (bs4 ⟨by omega, by omega⟩ ⟨by omega, by omega⟩ ⟨by omega, by omega⟩ ⟨by omega, by omega⟩) rfl rfl) ?_
        refine st rfl rfl rfl (op_assignO rfl rfl) ?_
        refine AOps_nil ?_
        refine AWp_ret ?_
        (try simp only [blockQ, thenQ])
        refine ResQ_10 rfl hcl (by simp [AV.lt, AV.ltL]) (Ret_of ?_)
        congr 1; unfold rchar; first | (rw [if_pos (by omega)]; done) | (rw [if_neg (by omega), if_pos (by omega)]; done) | (rw [if_neg (by omega), if_neg (by omega), if_pos (by omega)]; done) | (rw [if_neg (by omega), if_neg (by omega), if_neg (by omega)]; done)

end Lg
