/- A part of the proof of NumBack: what is shown is parsed; numbers are ordered; a count is as it counts: N2. -/
import Derived.Test.YtibcllgeeokjmaaDoorP3
import Derived.Test.YtibcllgeeokjmaaDoorProg
set_option linter.unusedVariables false
set_option linter.unusedSimpArgs false
set_option linter.unusedSectionVars false
set_option maxRecDepth 20000
set_option maxHeartbeats 4000000
namespace Lg
open Go Go.Proofs Go.RowKit
variable [GLay] 


theorem run_n (s : ByteArray) (a : Nat) (σ : List AO) (hs : s.size ≤ 1000000) (ha : a ≤ 1000000) : ACalls Tryd.prog 42 [.str s, .int .i64 (a : Int)] σ (Ret (.int .i64 (runl s a : Int)) σ) := by
  have := run_c s (a : Int) σ (by omega) (by omega) (by omega)
  simpa using this
theorem end_c (s : ByteArray) (a : Nat) (σ : List AO) (hs : s.size ≤ 1000000) (ha : a ≤ s.size) : ACalls Tryd.prog 22 [.str s, .int .i64 (a : Int)] σ (Ret (.tup [.int .i64 ((rEnd s a).1 : Int), .bool (rEnd s a).2]) σ) := by
  refine ACalls_body Tryd.func22 rfl Tryd.ntmps22 (res2 Tryd.results22) (Nat.le_of_ble_eq_true rfl) (fun hcl hal => ?_)
  have hi1 := eSign_le ha
  have hr1 := runl_le s (eSign s a)
  refine AWp_seq ?_
  -- region 0 ref.go:16
  refine AWp_regL ?_
  refine st rfl rfl rfl (op_assignO rfl rfl) ?_
  refine st rfl rfl rfl (op_assignO rfl rfl) ?_
  refine AOps_nil ?_
  refine AWp_seq ?_
  -- region 1 ref.go:17
  refine AWp_regL ?_
  refine st rfl rfl rfl (op_moveO rfl rfl) ?_
  refine st rfl rfl rfl (op_assignO rfl rfl) ?_
  refine AOps_nil ?_
  refine AWp_join (ι := Unit) (fun b => True) (fun b => ⟨[], [(0, .str s), (6, .int .i64 (eSign s a : Int))]⟩) (fun b => σ) ?_ (fun b hj => ?_)
  · skip
    refine AWp_seq ?_
    -- region 2 ref.go:18
    refine AWp_regL ?_
    refine st rfl rfl rfl (op_moveO rfl rfl) ?_
    refine st rfl rfl rfl (op_moveO rfl rfl) ?_
    refine st rfl rfl rfl (op_lenStr rfl rfl Tryd.underlying9 rfl) ?_
    refine st rfl rfl rfl (op_lss rfl rfl rfl) ?_
    refine st rfl rfl rfl (op_moveO rfl rfl) ?_
    refine AOps_split 13 rfl (fun h1 => ?_) (fun h1 => ?_)
    · rw [h1]; (try simp only [decide_eq_true_eq, decide_eq_false_iff_not, Bool.not_eq_true', Bool.not_eq_false', Int.not_lt, Int.not_le, Bool.not_true, Bool.not_false, Int.toNat_natCast, tn1, tn2, tnn, bne_iff_ne, beq_iff_eq, beq_eq_false_iff_ne, ne_eq, Decidable.not_not] at h1)
      refine stG rfl rfl rfl rfl rfl rfl (op_moveO rfl rfl) ?_
      refine stG rfl rfl rfl rfl rfl rfl (op_moveO rfl rfl) ?_
      refine stG rfl rfl rfl rfl rfl rfl (op_index_strB rfl Tryd.underlying9 rfl rfl (by omega) (by omega)) ?_
      refine stG rfl rfl rfl rfl rfl rfl (op_eql rfl rfl rfl) ?_
      refine st rfl rfl rfl (op_pickTO rfl rfl rfl) ?_
      refine AOps_nil ?_
      refine AWp_cond rfl (fun h2 => ?_) (fun h2 => ?_)
      · (try rw [h2]); (try simp only [decide_eq_true_eq, decide_eq_false_iff_not, Bool.not_eq_true', Bool.not_eq_false', Int.not_lt, Int.not_le, Bool.not_true, Bool.not_false, Int.toNat_natCast, tn1, tn2, tnn, bne_iff_ne, beq_iff_eq, beq_eq_false_iff_ne, ne_eq, Decidable.not_not] at h2)
        -- region 3 ref.go:19
        refine AWp_regL ?_
        refine st rfl rfl rfl (op_moveO rfl rfl) ?_
        refine st rfl rfl rfl (op_add64 rfl rfl rfl (by omega) (by omega)) ?_
        refine st rfl rfl rfl (op_assignO rfl rfl) ?_
        refine AOps_nil ?_
        refine ⟨(), trivial, ⟨rfl, rfl, ?_, trivial⟩, rfl⟩
        unfold eSign; first | (rw [if_pos (by omega)]; rfl) | (rw [if_neg (by omega)]; rfl)
      · (try rw [h2]); (try simp only [decide_eq_true_eq, decide_eq_false_iff_not, Bool.not_eq_true', Bool.not_eq_false', Int.not_lt, Int.not_le, Bool.not_true, Bool.not_false, Int.toNat_natCast, tn1, tn2, tnn, bne_iff_ne, beq_iff_eq, beq_eq_false_iff_ne, ne_eq, Decidable.not_not] at h2)
        refine AWp_skip ?_
        refine ⟨(), trivial, ⟨rfl, rfl, ?_, trivial⟩, rfl⟩
        unfold eSign; first | (rw [if_pos (by omega)]; rfl) | (rw [if_neg (by omega)]; rfl)
    · rw [h1]; (try simp only [decide_eq_true_eq, decide_eq_false_iff_not, Bool.not_eq_true', Bool.not_eq_false', Int.not_lt, Int.not_le, Bool.not_true, Bool.not_false, Int.toNat_natCast, tn1, tn2, tnn, bne_iff_ne, beq_iff_eq, beq_eq_false_iff_ne, ne_eq, Decidable.not_not] at h1)
      refine stS rfl rfl rfl (.inl rfl) rfl rfl ?_
      refine stS rfl rfl rfl (.inl rfl) rfl rfl ?_
      refine stS rfl rfl rfl (.inl rfl) rfl rfl ?_
      refine stS rfl rfl rfl (.inl rfl) rfl rfl ?_
      refine st rfl rfl rfl (op_pickFO rfl rfl rfl) ?_
      refine AOps_nil ?_
      refine AWp_condF rfl ?_
      refine AWp_skip ?_
      refine ⟨(), trivial, ⟨rfl, rfl, ?_, trivial⟩, rfl⟩
      unfold eSign; first | (rw [if_pos (by omega)]; rfl) | (rw [if_neg (by omega)]; rfl)
  · skip
    refine AWp_seq ?_
    -- region 4 ref.go:21
    refine AWp_regL ?_
    refine st rfl rfl rfl (op_moveO rfl rfl) ?_
    refine st rfl rfl rfl (op_moveO rfl rfl) ?_
    refine st rfl rfl rfl (op_callF rfl rfl rfl Tryd.func42 rfl rfl (run_n s (eSign s a) _ hs (by omega))) ?_
    refine st rfl rfl rfl (op_assignO rfl rfl) ?_
    refine AOps_nil ?_
    refine AWp_seq ?_
    refine AWp_seq ?_
    -- region 5 ref.go:22
    refine AWp_regL ?_
    refine st rfl rfl rfl (op_moveO rfl rfl) ?_
    refine st rfl rfl rfl (op_eql rfl rfl rfl) ?_
    refine AOps_nil ?_
    refine AWp_cond rfl (fun h3 => ?_) (fun h3 => ?_)
    · (try rw [h3]); (try simp only [decide_eq_true_eq, decide_eq_false_iff_not, Bool.not_eq_true', Bool.not_eq_false', Int.not_lt, Int.not_le, Bool.not_true, Bool.not_false, Int.toNat_natCast, tn1, tn2, tnn, bne_iff_ne, beq_iff_eq, beq_eq_false_iff_ne, ne_eq, Decidable.not_not] at h3)
      refine AWp_seq ?_
      -- region 6 ref.go:23
      refine AWp_regL ?_
      refine st rfl rfl rfl (op_moveO rfl rfl) ?_
      refine st rfl rfl rfl (op_assignO rfl rfl) ?_
      refine st rfl rfl rfl (op_assignO rfl rfl) ?_
      refine AOps_nil ?_
      refine AWp_ret ?_
      (try simp only [blockQ, thenQ])
      have hE : rEnd s a = (eSign s a, false) := by unfold rEnd; rw [if_pos (by omega)]
      rw [hE]; exact ResQ_20 rfl rfl hcl (by simp [AV.lt, AV.ltL]) (Ret_of rfl)
    · (try rw [h3]); (try simp only [decide_eq_true_eq, decide_eq_false_iff_not, Bool.not_eq_true', Bool.not_eq_false', Int.not_lt, Int.not_le, Bool.not_true, Bool.not_false, Int.toNat_natCast, tn1, tn2, tnn, bne_iff_ne, beq_iff_eq, beq_eq_false_iff_ne, ne_eq, Decidable.not_not] at h3)
      refine AWp_skip ?_
      refine AWp_join (ι := Unit) (fun b => True) (fun b => ⟨[], [(0, .str s), (6, .int .i64 (eSign s a : Int)), (7, .int .i64 (eInt s (eSign s a) : Int))]⟩) (fun b => σ) ?_ (fun b hj => ?_)
      · skip
        refine AWp_seq ?_
        -- region 7 ref.go:25
        refine AWp_regL ?_
        refine st rfl rfl rfl (op_moveO rfl rfl) ?_
        refine st rfl rfl rfl (op_moveO rfl rfl) ?_
        refine st rfl rfl rfl (op_index_strB rfl Tryd.underlying9 rfl rfl (by omega) (by omega)) ?_
        refine st rfl rfl rfl (op_eql rfl rfl rfl) ?_
        refine AOps_nil ?_
        refine AWp_cond rfl (fun h4 => ?_) (fun h4 => ?_)
        · (try rw [h4]); (try simp only [decide_eq_true_eq, decide_eq_false_iff_not, Bool.not_eq_true', Bool.not_eq_false', Int.not_lt, Int.not_le, Bool.not_true, Bool.not_false, Int.toNat_natCast, tn1, tn2, tnn, bne_iff_ne, beq_iff_eq, beq_eq_false_iff_ne, ne_eq, Decidable.not_not] at h4)
          -- region 8 ref.go:26
          refine AWp_regL ?_
          refine st rfl rfl rfl (op_assignO rfl rfl) ?_
          refine AOps_nil ?_
          refine ⟨(), trivial, ⟨rfl, rfl, rfl, ?_, trivial⟩, rfl⟩
          unfold eInt; first | (rw [if_pos (by omega)]; rfl) | (rw [if_neg (by omega)]; rfl)
        · (try rw [h4]); (try simp only [decide_eq_true_eq, decide_eq_false_iff_not, Bool.not_eq_true', Bool.not_eq_false', Int.not_lt, Int.not_le, Bool.not_true, Bool.not_false, Int.toNat_natCast, tn1, tn2, tnn, bne_iff_ne, beq_iff_eq, beq_eq_false_iff_ne, ne_eq, Decidable.not_not] at h4)
          refine AWp_skip ?_
          refine ⟨(), trivial, ⟨rfl, rfl, rfl, ?_, trivial⟩, rfl⟩
          unfold eInt; first | (rw [if_pos (by omega)]; rfl) | (rw [if_neg (by omega)]; rfl)
      · skip
        have hi2 := eInt_le hi1.2 (by omega)
        have hE : rEnd s a = eFrac s (eSign s a + eInt s (eSign s a)) := by unfold rEnd; rw [if_neg (by omega)]
        generalize hk : (eSign s a + eInt s (eSign s a)) = k at hE
        have hr2 := runl_le s (k + 1)
        refine AWp_seq ?_
        -- region 9 ref.go:28
        refine AWp_regL ?_
        refine st rfl rfl rfl (op_moveO rfl rfl) ?_
        refine st rfl rfl rfl (op_moveO rfl rfl) ?_
        refine st rfl rfl rfl (op_add64 rfl rfl rfl (by omega) (by omega)) ?_
        rw [← Int.natCast_add, hk]
        refine st rfl rfl rfl (op_assignO rfl rfl) ?_
        refine AOps_nil ?_
        refine AWp_join (ι := Nat) (fun j => rEnd s a = ePow s j ∧ j ≤ s.size) (fun j => ⟨[], [(0, .str s), (6, .int .i64 (j : Int))]⟩) (fun j => σ) ?_ (fun j hj => ?_)
        · skip
          refine AWp_seq ?_
          -- region 10 ref.go:29
          refine AWp_regL ?_
          refine st rfl rfl rfl (op_moveO rfl rfl) ?_
          refine st rfl rfl rfl (op_moveO rfl rfl) ?_
          refine st rfl rfl rfl (op_lenStr rfl rfl Tryd.underlying9 rfl) ?_
          refine st rfl rfl rfl (op_lss rfl rfl rfl) ?_
          refine st rfl rfl rfl (op_moveO rfl rfl) ?_
          refine AOps_split 38 rfl (fun h5 => ?_) (fun h5 => ?_)
          · rw [h5]; (try simp only [decide_eq_true_eq, decide_eq_false_iff_not, Bool.not_eq_true', Bool.not_eq_false', Int.not_lt, Int.not_le, Bool.not_true, Bool.not_false, Int.toNat_natCast, tn1, tn2, tnn, bne_iff_ne, beq_iff_eq, beq_eq_false_iff_ne, ne_eq, Decidable.not_not] at h5)
            refine stG rfl rfl rfl rfl rfl rfl (op_moveO rfl rfl) ?_
            refine stG rfl rfl rfl rfl rfl rfl (op_moveO rfl rfl) ?_
            refine stG rfl rfl rfl rfl rfl rfl (op_index_strB rfl Tryd.underlying9 rfl rfl (by omega) (by omega)) ?_
            refine stG rfl rfl rfl rfl rfl rfl (op_eql rfl rfl rfl) ?_
            refine st rfl rfl rfl (op_pickTO rfl rfl rfl) ?_
            refine AOps_nil ?_
            refine AWp_cond rfl (fun h6 => ?_) (fun h6 => ?_)
            · (try rw [h6]); (try simp only [decide_eq_true_eq, decide_eq_false_iff_not, Bool.not_eq_true', Bool.not_eq_false', Int.not_lt, Int.not_le, Bool.not_true, Bool.not_false, Int.toNat_natCast, tn1, tn2, tnn, bne_iff_ne, beq_iff_eq, beq_eq_false_iff_ne, ne_eq, Decidable.not_not] at h6)
              refine AWp_seq ?_
              -- region 11 ref.go:30
              refine AWp_regL ?_
              refine st rfl rfl rfl (op_moveO rfl rfl) ?_
              refine st rfl rfl rfl (op_moveO rfl rfl) ?_
              refine st rfl rfl rfl (op_add64 rfl rfl rfl (by omega) (by omega)) ?_
              refine st rfl rfl rfl (op_callF rfl rfl rfl Tryd.func42 rfl rfl (run_n s (k + 1) _ hs (by omega))) ?_
              refine st rfl rfl rfl (op_assignO rfl rfl) ?_
              refine AOps_nil ?_
              refine AWp_seq ?_
              -- region 12 ref.go:31
              refine AWp_regL ?_
              refine st rfl rfl rfl (op_moveO rfl rfl) ?_
              refine st rfl rfl rfl (op_add64 rfl rfl rfl (by omega) (by omega)) ?_
              refine st rfl rfl rfl (op_moveO rfl rfl) ?_
              refine st rfl rfl rfl (op_add64 rfl rfl rfl (by omega) (by omega)) ?_
              refine st rfl rfl rfl (op_assignO rfl rfl) ?_
              refine AOps_nil ?_
              refine AWp_seq ?_
              -- region 13 ref.go:32
              refine AWp_regL ?_
              refine st rfl rfl rfl (op_moveO rfl rfl) ?_
              refine st rfl rfl rfl (op_eql rfl rfl rfl) ?_
              refine AOps_nil ?_
              refine AWp_cond rfl (fun h7 => ?_) (fun h7 => ?_)
              · (try rw [h7]); (try simp only [decide_eq_true_eq, decide_eq_false_iff_not, Bool.not_eq_true', Bool.not_eq_false', Int.not_lt, Int.not_le, Bool.not_true, Bool.not_false, Int.toNat_natCast, tn1, tn2, tnn, bne_iff_ne, beq_iff_eq, beq_eq_false_iff_ne, ne_eq, Decidable.not_not] at h7)
                refine AWp_seq ?_
                -- region 14 ref.go:33
                refine AWp_regL ?_
                refine st rfl rfl rfl (op_moveO rfl rfl) ?_
                refine st rfl rfl rfl (op_assignO rfl rfl) ?_
                refine st rfl rfl rfl (op_assignO rfl rfl) ?_
                refine AOps_nil ?_
                refine AWp_ret ?_
                (try simp only [blockQ, thenQ])
                have hE : rEnd s a = (k + 1, false) := by rw [hE]; unfold eFrac; rw [if_pos (by omega), if_pos (by omega)]
                rw [hE]; refine ResQ_20 rfl rfl hcl (by simp [AV.lt, AV.ltL]) (Ret_of ?_)
                congr 3; dsimp only; omega
              · (try rw [h7]); (try simp only [decide_eq_true_eq, decide_eq_false_iff_not, Bool.not_eq_true', Bool.not_eq_false', Int.not_lt, Int.not_le, Bool.not_true, Bool.not_false, Int.toNat_natCast, tn1, tn2, tnn, bne_iff_ne, beq_iff_eq, beq_eq_false_iff_ne, ne_eq, Decidable.not_not] at h7)
                refine AWp_skip ?_
                first | refine ⟨k + 1 + runl s (k + 1), ⟨by rw [hE]; unfold eFrac; rw [if_pos (by omega), if_neg (by omega)], by omega⟩, ⟨rfl, rfl, rfl, trivial⟩, rfl⟩ | refine ⟨k, ⟨by rw [hE]; unfold eFrac; rw [if_neg (by omega)], by omega⟩, ⟨rfl, rfl, rfl, trivial⟩, rfl⟩
            · (try rw [h6]); (try simp only [decide_eq_true_eq, decide_eq_false_iff_not, Bool.not_eq_true', Bool.not_eq_false', Int.not_lt, Int.not_le, Bool.not_true, Bool.not_false, Int.toNat_natCast, tn1, tn2, tnn, bne_iff_ne, beq_iff_eq, beq_eq_false_iff_ne, ne_eq, Decidable.not_not] at h6)
              refine AWp_skip ?_
              first | refine ⟨k + 1 + runl s (k + 1), ⟨by rw [hE]; unfold eFrac; rw [if_pos (by omega), if_neg (by omega)], by omega⟩, ⟨rfl, rfl, rfl, trivial⟩, rfl⟩ | refine ⟨k, ⟨by rw [hE]; unfold eFrac; rw [if_neg (by omega)], by omega⟩, ⟨rfl, rfl, rfl, trivial⟩, rfl⟩
          · rw [h5]; (try simp only [decide_eq_true_eq, decide_eq_false_iff_not, Bool.not_eq_true', Bool.not_eq_false', Int.not_lt, Int.not_le, Bool.not_true, Bool.not_false, Int.toNat_natCast, tn1, tn2, tnn, bne_iff_ne, beq_iff_eq, beq_eq_false_iff_ne, ne_eq, Decidable.not_not] at h5)
            refine stS rfl rfl rfl (.inl rfl) rfl rfl ?_
            refine stS rfl rfl rfl (.inl rfl) rfl rfl ?_
            refine stS rfl rfl rfl (.inl rfl) rfl rfl ?_
            refine stS rfl rfl rfl (.inl rfl) rfl rfl ?_
            refine st rfl rfl rfl (op_pickFO rfl rfl rfl) ?_
            refine AOps_nil ?_
            refine AWp_condF rfl ?_
            refine AWp_skip ?_
            first | refine ⟨k + 1 + runl s (k + 1), ⟨by rw [hE]; unfold eFrac; rw [if_pos (by omega), if_neg (by omega)], by omega⟩, ⟨rfl, rfl, rfl, trivial⟩, rfl⟩ | refine ⟨k, ⟨by rw [hE]; unfold eFrac; rw [if_neg (by omega)], by omega⟩, ⟨rfl, rfl, rfl, trivial⟩, rfl⟩
        · skip
          obtain ⟨hE, hj⟩ := hj
          refine AWp_seq ?_
          refine AWp_seq ?_
          -- region 15 ref.go:36
          refine AWp_regL ?_
          refine st rfl rfl rfl (op_moveO rfl rfl) ?_
          refine st rfl rfl rfl (op_moveO rfl rfl) ?_
          refine st rfl rfl rfl (op_lenStr rfl rfl Tryd.underlying9 rfl) ?_
          refine st rfl rfl rfl (op_lss rfl rfl rfl) ?_
          refine st rfl rfl rfl (op_moveO rfl rfl) ?_
          refine AOps_split 59 rfl (fun h8 => ?_) (fun h8 => ?_)
          · rw [h8]; (try simp only [decide_eq_true_eq, decide_eq_false_iff_not, Bool.not_eq_true', Bool.not_eq_false', Int.not_lt, Int.not_le, Bool.not_true, Bool.not_false, Int.toNat_natCast, tn1, tn2, tnn, bne_iff_ne, beq_iff_eq, beq_eq_false_iff_ne, ne_eq, Decidable.not_not] at h8)
            refine stG rfl rfl rfl rfl rfl rfl (op_moveO rfl rfl) ?_
            refine stG rfl rfl rfl rfl rfl rfl (op_moveO rfl rfl) ?_
            refine stG rfl rfl rfl rfl rfl rfl (op_index_strB rfl Tryd.underlying9 rfl rfl (by omega) (by omega)) ?_
            refine stG rfl rfl rfl rfl rfl rfl (op_eql rfl rfl rfl) ?_
            refine stG rfl rfl rfl rfl rfl rfl (op_moveO rfl rfl) ?_
            refine AOps_split 64 rfl (fun h9 => ?_) (fun h9 => ?_)
            · rw [h9]; (try simp only [decide_eq_true_eq, decide_eq_false_iff_not, Bool.not_eq_true', Bool.not_eq_false', Int.not_lt, Int.not_le, Bool.not_true, Bool.not_false, Int.toNat_natCast, tn1, tn2, tnn, bne_iff_ne, beq_iff_eq, beq_eq_false_iff_ne, ne_eq, Decidable.not_not] at h9)
              refine stS rfl rfl rfl (.inl rfl) rfl rfl ?_
              refine stS rfl rfl rfl (.inl rfl) rfl rfl ?_
              refine stS rfl rfl rfl (.inl rfl) rfl rfl ?_
              refine stS rfl rfl rfl (.inl rfl) rfl rfl ?_
              refine stG rfl rfl rfl rfl rfl rfl (op_pickTO rfl rfl rfl) ?_
              refine st rfl rfl rfl (op_pickTO rfl rfl rfl) ?_
              refine AOps_nil ?_
              refine AWp_condT rfl ?_
              refine AWp_seq ?_
              -- region 16 ref.go:37
              refine AWp_regL ?_
              refine st rfl rfl rfl (op_moveO rfl rfl) ?_
              refine st rfl rfl rfl (op_add64 rfl rfl rfl (by omega) (by omega)) ?_
              refine st rfl rfl rfl (op_assignO rfl rfl) ?_
              refine AOps_nil ?_
              refine AWp_join (ι := Unit) (fun b => True) (fun b => ⟨[], [(0, .str s), (6, .int .i64 (eSg s (j + 1) : Int))]⟩) (fun b => σ) ?_ (fun b hj => ?_)
              · skip
                refine AWp_seq ?_
                -- region 17 ref.go:38
                refine AWp_regL ?_
                refine st rfl rfl rfl (op_moveO rfl rfl) ?_
                refine st rfl rfl rfl (op_moveO rfl rfl) ?_
                refine st rfl rfl rfl (op_lenStr rfl rfl Tryd.underlying9 rfl) ?_
                refine st rfl rfl rfl (op_lss rfl rfl rfl) ?_
                refine st rfl rfl rfl (op_moveO rfl rfl) ?_
                refine AOps_split 77 rfl (fun h10 => ?_) (fun h10 => ?_)
                · rw [h10]; (try simp only [decide_eq_true_eq, decide_eq_false_iff_not, Bool.not_eq_true', Bool.not_eq_false', Int.not_lt, Int.not_le, Bool.not_true, Bool.not_false, Int.toNat_natCast, tn1, tn2, tnn, bne_iff_ne, beq_iff_eq, beq_eq_false_iff_ne, ne_eq, Decidable.not_not] at h10)
                  refine stG rfl rfl rfl rfl rfl rfl (op_moveO rfl rfl) ?_
                  refine stG rfl rfl rfl rfl rfl rfl (op_moveO rfl rfl) ?_
                  refine stG rfl rfl rfl rfl rfl rfl (op_index_strB rfl Tryd.underlying9 rfl rfl (by omega) (by omega)) ?_
                  refine stG rfl rfl rfl rfl rfl rfl (op_eql rfl rfl rfl) ?_
                  refine stG rfl rfl rfl rfl rfl rfl (op_moveO rfl rfl) ?_
                  refine AOps_split 82 rfl (fun h11 => ?_) (fun h11 => ?_)
                  · rw [h11]; (try simp only [decide_eq_true_eq, decide_eq_false_iff_not, Bool.not_eq_true', Bool.not_eq_false', Int.not_lt, Int.not_le, Bool.not_true, Bool.not_false, Int.toNat_natCast, tn1, tn2, tnn, bne_iff_ne, beq_iff_eq, beq_eq_false_iff_ne, ne_eq, Decidable.not_not] at h11)
                    refine stS rfl rfl rfl (.inl rfl) rfl rfl ?_
                    refine stS rfl rfl rfl (.inl rfl) rfl rfl ?_
                    refine stS rfl rfl rfl (.inl rfl) rfl rfl ?_
                    refine stS rfl rfl rfl (.inl rfl) rfl rfl ?_
                    refine stG rfl rfl rfl rfl rfl rfl (op_pickTO rfl rfl rfl) ?_
                    refine st rfl rfl rfl (op_pickTO rfl rfl rfl) ?_
                    refine AOps_nil ?_
                    refine AWp_condT rfl ?_
                    -- region 18 ref.go:39
                    refine AWp_regL ?_
                    refine st rfl rfl rfl (op_moveO rfl rfl) ?_
                    refine st rfl rfl rfl (op_add64 rfl rfl rfl (by omega) (by omega)) ?_
                    refine st rfl rfl rfl (op_assignO rfl rfl) ?_
                    refine AOps_nil ?_
                    refine ⟨(), trivial, ⟨rfl, rfl, ?_, trivial⟩, rfl⟩
                    unfold eSg; first | (rw [if_pos (by omega)]; rfl) | (rw [if_neg (by omega)]; rfl)
                  · rw [h11]; (try simp only [decide_eq_true_eq, decide_eq_false_iff_not, Bool.not_eq_true', Bool.not_eq_false', Int.not_lt, Int.not_le, Bool.not_true, Bool.not_false, Int.toNat_natCast, tn1, tn2, tnn, bne_iff_ne, beq_iff_eq, beq_eq_false_iff_ne, ne_eq, Decidable.not_not] at h11)
                    refine stG rfl rfl rfl rfl rfl rfl (op_moveO rfl rfl) ?_
                    refine stG rfl rfl rfl rfl rfl rfl (op_moveO rfl rfl) ?_
                    refine stG rfl rfl rfl rfl rfl rfl (op_index_strB rfl Tryd.underlying9 rfl rfl (by omega) (by omega)) ?_
                    refine stG rfl rfl rfl rfl rfl rfl (op_eql rfl rfl rfl) ?_
                    refine stG rfl rfl rfl rfl rfl rfl (op_pickFO rfl rfl rfl) ?_
                    refine st rfl rfl rfl (op_pickTO rfl rfl rfl) ?_
                    refine AOps_nil ?_
                    refine AWp_cond rfl (fun h12 => ?_) (fun h12 => ?_)
                    · (try rw [h12]); (try simp only [decide_eq_true_eq, decide_eq_false_iff_not, Bool.not_eq_true', Bool.not_eq_false', Int.not_lt, Int.not_le, Bool.not_true, Bool.not_false, Int.toNat_natCast, tn1, tn2, tnn, bne_iff_ne, beq_iff_eq, beq_eq_false_iff_ne, ne_eq, Decidable.not_not] at h12)
                      -- region 18 ref.go:39
                      refine AWp_regL ?_
                      refine st rfl rfl rfl (op_moveO rfl rfl) ?_
                      refine st rfl rfl rfl (op_add64 rfl rfl rfl (by omega) (by omega)) ?_
                      refine st rfl rfl rfl (op_assignO rfl rfl) ?_
                      refine AOps_nil ?_
                      refine ⟨(), trivial, ⟨rfl, rfl, ?_, trivial⟩, rfl⟩
                      unfold eSg; first | (rw [if_pos (by omega)]; rfl) | (rw [if_neg (by omega)]; rfl)
                    · (try rw [h12]); (try simp only [decide_eq_true_eq, decide_eq_false_iff_not, Bool.not_eq_true', Bool.not_eq_false', Int.not_lt, Int.not_le, Bool.not_true, Bool.not_false, Int.toNat_natCast, tn1, tn2, tnn, bne_iff_ne, beq_iff_eq, beq_eq_false_iff_ne, ne_eq, Decidable.not_not] at h12)
                      refine AWp_skip ?_
                      refine ⟨(), trivial, ⟨rfl, rfl, ?_, trivial⟩, rfl⟩
                      unfold eSg; first | (rw [if_pos (by omega)]; rfl) | (rw [if_neg (by omega)]; rfl)
                · rw [h10]; (try simp only [decide_eq_true_eq, decide_eq_false_iff_not, Bool.not_eq_true', Bool.not_eq_false', Int.not_lt, Int.not_le, Bool.not_true, Bool.not_false, Int.toNat_natCast, tn1, tn2, tnn, bne_iff_ne, beq_iff_eq, beq_eq_false_iff_ne, ne_eq, Decidable.not_not] at h10)
                  refine stS rfl rfl rfl (.inl rfl) rfl rfl ?_
                  refine stS rfl rfl rfl (.inl rfl) rfl rfl ?_
                  refine stS rfl rfl rfl (.inl rfl) rfl rfl ?_
                  refine stS rfl rfl rfl (.inl rfl) rfl rfl ?_
                  refine stS rfl rfl rfl (.inl rfl) rfl rfl ?_
                  refine stS rfl rfl rfl (.inr rfl) rfl rfl ?_
                  refine stS rfl rfl rfl (.inr rfl) rfl rfl ?_
                  refine stS rfl rfl rfl (.inr rfl) rfl rfl ?_
                  refine stS rfl rfl rfl (.inr rfl) rfl rfl ?_
                  refine stS rfl rfl rfl (.inl rfl) rfl rfl ?_
                  refine st rfl rfl rfl (op_pickFO rfl rfl rfl) ?_
                  refine AOps_nil ?_
                  refine AWp_condF rfl ?_
                  refine AWp_skip ?_
                  refine ⟨(), trivial, ⟨rfl, rfl, ?_, trivial⟩, rfl⟩
                  unfold eSg; first | (rw [if_pos (by omega)]; rfl) | (rw [if_neg (by omega)]; rfl)
              · skip
                have hi3 := eSg_le (s := s) (a := j + 1) (by omega)
                have hr3 := runl_le s (eSg s (j + 1))
                refine AWp_seq ?_
                -- region 19 ref.go:41
                refine AWp_regL ?_
                refine st rfl rfl rfl (op_moveO rfl rfl) ?_
                refine st rfl rfl rfl (op_moveO rfl rfl) ?_
                refine st rfl rfl rfl (op_callF rfl rfl rfl Tryd.func42 rfl rfl (run_n s (eSg s (j + 1)) _ hs (by omega))) ?_
                refine st rfl rfl rfl (op_assignO rfl rfl) ?_
                refine AOps_nil ?_
                refine AWp_seq ?_
                -- region 20 ref.go:42
                refine AWp_regL ?_
                refine st rfl rfl rfl (op_moveO rfl rfl) ?_
                refine st rfl rfl rfl (op_moveO rfl rfl) ?_
                refine st rfl rfl rfl (op_add64 rfl rfl rfl (by omega) (by omega)) ?_
                refine st rfl rfl rfl (op_assignO rfl rfl) ?_
                refine AOps_nil ?_
                refine AWp_seq ?_
                -- region 21 ref.go:43
                refine AWp_regL ?_
                refine st rfl rfl rfl (op_moveO rfl rfl) ?_
                refine st rfl rfl rfl (op_eql rfl rfl rfl) ?_
                refine AOps_nil ?_
                refine AWp_cond rfl (fun h13 => ?_) (fun h13 => ?_)
                · (try rw [h13]); (try simp only [decide_eq_true_eq, decide_eq_false_iff_not, Bool.not_eq_true', Bool.not_eq_false', Int.not_lt, Int.not_le, Bool.not_true, Bool.not_false, Int.toNat_natCast, tn1, tn2, tnn, bne_iff_ne, beq_iff_eq, beq_eq_false_iff_ne, ne_eq, Decidable.not_not] at h13)
                  refine AWp_seq ?_
                  -- region 22 ref.go:44
                  refine AWp_regL ?_
                  refine st rfl rfl rfl (op_moveO rfl rfl) ?_
                  refine st rfl rfl rfl (op_assignO rfl rfl) ?_
                  refine st rfl rfl rfl (op_assignO rfl rfl) ?_
                  refine AOps_nil ?_
                  refine AWp_ret ?_
                  (try simp only [blockQ, thenQ])
                  first | (have hE2 : rEnd s a = (eSg s (j + 1), false) := by rw [hE]; unfold ePow; rw [if_pos (by omega), if_pos (by omega)]); rw [hE2]; (refine ResQ_20 rfl rfl hcl (by simp [AV.lt, AV.ltL]) (Ret_of ?_)); congr 3; dsimp only; omega | (have hE2 : rEnd s a = (eSg s (j + 1) + runl s (eSg s (j + 1)), true) := by rw [hE]; unfold ePow; rw [if_pos (by omega), if_neg (by omega)]); rw [hE2]; exact ResQ_20 rfl rfl hcl (by simp [AV.lt, AV.ltL]) (Ret_of rfl) | (have hE2 : rEnd s a = (j, true) := by rw [hE]; unfold ePow; rw [if_neg (by omega)]); rw [hE2]; exact ResQ_20 rfl rfl hcl (by simp [AV.lt, AV.ltL]) (Ret_of rfl)
                · (try rw [h13]); (try simp only [decide_eq_true_eq, decide_eq_false_iff_not, Bool.not_eq_true', Bool.not_eq_false', Int.not_lt, Int.not_le, Bool.not_true, Bool.not_false, Int.toNat_natCast, tn1, tn2, tnn, bne_iff_ne, beq_iff_eq, beq_eq_false_iff_ne, ne_eq, Decidable.not_not] at h13)
                  refine AWp_skip ?_
                  refine AWp_seq ?_
                  -- region 23 ref.go:47
                  refine AWp_regL ?_
                  refine st rfl rfl rfl (op_moveO rfl rfl) ?_
                  refine st rfl rfl rfl (op_assignO rfl rfl) ?_
                  refine st rfl rfl rfl (op_assignO rfl rfl) ?_
                  refine AOps_nil ?_
                  refine AWp_ret ?_
                  (try simp only [blockQ, thenQ])
                  first | (have hE2 : rEnd s a = (eSg s (j + 1), false) := by rw [hE]; unfold ePow; rw [if_pos (by omega), if_pos (by omega)]); rw [hE2]; (refine ResQ_20 rfl rfl hcl (by simp [AV.lt, AV.ltL]) (Ret_of ?_)); congr 3; dsimp only; omega | (have hE2 : rEnd s a = (eSg s (j + 1) + runl s (eSg s (j + 1)), true) := by rw [hE]; unfold ePow; rw [if_pos (by omega), if_neg (by omega)]); rw [hE2]; exact ResQ_20 rfl rfl hcl (by simp [AV.lt, AV.ltL]) (Ret_of rfl) | (have hE2 : rEnd s a = (j, true) := by rw [hE]; unfold ePow; rw [if_neg (by omega)]); rw [hE2]; exact ResQ_20 rfl rfl hcl (by simp [AV.lt, AV.ltL]) (Ret_of rfl)
            · rw [h9]; (try simp only [decide_eq_true_eq, decide_eq_false_iff_not, Bool.not_eq_true', Bool.not_eq_false', Int.not_lt, Int.not_le, Bool.not_true, Bool.not_false, Int.toNat_natCast, tn1, tn2, tnn, bne_iff_ne, beq_iff_eq, beq_eq_false_iff_ne, ne_eq, Decidable.not_not] at h9)
              refine stG rfl rfl rfl rfl rfl rfl (op_moveO rfl rfl) ?_
              refine stG rfl rfl rfl rfl rfl rfl (op_moveO rfl rfl) ?_
              refine stG rfl rfl rfl rfl rfl rfl (op_index_strB rfl Tryd.underlying9 rfl rfl (by omega) (by omega)) ?_
              refine stG rfl rfl rfl rfl rfl rfl (op_eql rfl rfl rfl) ?_
              refine stG rfl rfl rfl rfl rfl rfl (op_pickFO rfl rfl rfl) ?_
              refine st rfl rfl rfl (op_pickTO rfl rfl rfl) ?_
              refine AOps_nil ?_
              refine AWp_cond rfl (fun h14 => ?_) (fun h14 => ?_)
              · (try rw [h14]); (try simp only [decide_eq_true_eq, decide_eq_false_iff_not, Bool.not_eq_true', Bool.not_eq_false', Int.not_lt, Int.not_le, Bool.not_true, Bool.not_false, Int.toNat_natCast, tn1, tn2, tnn, bne_iff_ne, beq_iff_eq, beq_eq_false_iff_ne, ne_eq, Decidable.not_not] at h14)
                refine AWp_seq ?_
                -- region 16 ref.go:37
                refine AWp_regL ?_
                refine st rfl rfl rfl (op_moveO rfl rfl) ?_
                refine st rfl rfl rfl (op_add64 rfl rfl rfl (by omega) (by omega)) ?_
                refine st rfl rfl rfl (op_assignO rfl rfl) ?_
                refine AOps_nil ?_
                refine AWp_join (ι := Unit) (fun b => True) (fun b => ⟨[], [(0, .str s), (6, .int .i64 (eSg s (j + 1) : Int))]⟩) (fun b => σ) ?_ (fun b hj => ?_)
                · skip
                  refine AWp_seq ?_
                  -- region 17 ref.go:38
                  refine AWp_regL ?_
                  refine st rfl rfl rfl (op_moveO rfl rfl) ?_
                  refine st rfl rfl rfl (op_moveO rfl rfl) ?_
                  refine st rfl rfl rfl (op_lenStr rfl rfl Tryd.underlying9 rfl) ?_
                  refine st rfl rfl rfl (op_lss rfl rfl rfl) ?_
                  refine st rfl rfl rfl (op_moveO rfl rfl) ?_
                  refine AOps_split 77 rfl (fun h15 => ?_) (fun h15 => ?_)
                  · rw [h15]; (try simp only [decide_eq_true_eq, decide_eq_false_iff_not, Bool.not_eq_true', Bool.not_eq_false', Int.not_lt, Int.not_le, Bool.not_true, Bool.not_false, Int.toNat_natCast, tn1, tn2, tnn, bne_iff_ne, beq_iff_eq, beq_eq_false_iff_ne, ne_eq, Decidable.not_not] at h15)
                    refine stG rfl rfl rfl rfl rfl rfl (op_moveO rfl rfl) ?_
                    refine stG rfl rfl rfl rfl rfl rfl (op_moveO rfl rfl) ?_
                    refine stG rfl rfl rfl rfl rfl rfl (op_index_strB rfl Tryd.underlying9 rfl rfl (by omega) (by omega)) ?_
                    refine stG rfl rfl rfl rfl rfl rfl (op_eql rfl rfl rfl) ?_
                    refine stG rfl rfl rfl rfl rfl rfl (op_moveO rfl rfl) ?_
                    refine AOps_split 82 rfl (fun h16 => ?_) (fun h16 => ?_)
                    · rw [h16]; (try simp only [decide_eq_true_eq, decide_eq_false_iff_not, Bool.not_eq_true', Bool.not_eq_false', Int.not_lt, Int.not_le, Bool.not_true, Bool.not_false, Int.toNat_natCast, tn1, tn2, tnn, bne_iff_ne, beq_iff_eq, beq_eq_false_iff_ne, ne_eq, Decidable.not_not] at h16)
                      refine stS rfl rfl rfl (.inl rfl) rfl rfl ?_
                      refine stS rfl rfl rfl (.inl rfl) rfl rfl ?_
                      refine stS rfl rfl rfl (.inl rfl) rfl rfl ?_
                      refine stS rfl rfl rfl (.inl rfl) rfl rfl ?_
                      refine stG rfl rfl rfl rfl rfl rfl (op_pickTO rfl rfl rfl) ?_
                      refine st rfl rfl rfl (op_pickTO rfl rfl rfl) ?_
                      refine AOps_nil ?_
                      refine AWp_condT rfl ?_
                      -- region 18 ref.go:39
                      refine AWp_regL ?_
                      refine st rfl rfl rfl (op_moveO rfl rfl) ?_
                      refine st rfl rfl rfl (op_add64 rfl rfl rfl (by omega) (by omega)) ?_
                      refine st rfl rfl rfl (op_assignO rfl rfl) ?_
                      refine AOps_nil ?_
                      refine ⟨(), trivial, ⟨rfl, rfl, ?_, trivial⟩, rfl⟩
                      unfold eSg; first | (rw [if_pos (by omega)]; rfl) | (rw [if_neg (by omega)]; rfl)
                    · rw [h16]; (try simp only [decide_eq_true_eq, decide_eq_false_iff_not, Bool.not_eq_true', Bool.not_eq_false', Int.not_lt, Int.not_le, Bool.not_true, Bool.not_false, Int.toNat_natCast, tn1, tn2, tnn, bne_iff_ne, beq_iff_eq, beq_eq_false_iff_ne, ne_eq, Decidable.not_not] at h16)
                      refine stG rfl rfl rfl rfl rfl rfl (op_moveO rfl rfl) ?_
                      refine stG rfl rfl rfl rfl rfl rfl (op_moveO rfl rfl) ?_
                      refine stG rfl rfl rfl rfl rfl rfl (op_index_strB rfl Tryd.underlying9 rfl rfl (by omega) (by omega)) ?_
                      refine stG rfl rfl rfl rfl rfl rfl (op_eql rfl rfl rfl) ?_
                      refine stG rfl rfl rfl rfl rfl rfl (op_pickFO rfl rfl rfl) ?_
                      refine st rfl rfl rfl (op_pickTO rfl rfl rfl) ?_
                      refine AOps_nil ?_
                      refine AWp_cond rfl (fun h17 => ?_) (fun h17 => ?_)
                      · (try rw [h17]); (try simp only [decide_eq_true_eq, decide_eq_false_iff_not, Bool.not_eq_true', Bool.not_eq_false', Int.not_lt, Int.not_le, Bool.not_true, Bool.not_false, Int.toNat_natCast, tn1, tn2, tnn, bne_iff_ne, beq_iff_eq, beq_eq_false_iff_ne, ne_eq, Decidable.not_not] at h17)
                        -- region 18 ref.go:39
                        refine AWp_regL ?_
                        refine st rfl rfl rfl (op_moveO rfl rfl) ?_
                        refine st rfl rfl rfl (op_add64 rfl rfl rfl (by omega) (by omega)) ?_
                        refine st rfl rfl rfl (op_assignO rfl rfl) ?_
                        refine AOps_nil ?_
                        refine ⟨(), trivial, ⟨rfl, rfl, ?_, trivial⟩, rfl⟩
                        unfold eSg; first | (rw [if_pos (by omega)]; rfl) | (rw [if_neg (by omega)]; rfl)
                      · (try rw [h17]); (try simp only [decide_eq_true_eq, decide_eq_false_iff_not, Bool.not_eq_true', Bool.not_eq_false', Int.not_lt, Int.not_le, Bool.not_true, Bool.not_false, Int.toNat_natCast, tn1, tn2, tnn, bne_iff_ne, beq_iff_eq, beq_eq_false_iff_ne, ne_eq, Decidable.not_not] at h17)
                        refine AWp_skip ?_
                        refine ⟨(), trivial, ⟨rfl, rfl, ?_, trivial⟩, rfl⟩
                        unfold eSg; first | (rw [if_pos (by omega)]; rfl) | (rw [if_neg (by omega)]; rfl)
                  · rw [h15]; (try simp only [decide_eq_true_eq, decide_eq_false_iff_not, Bool.not_eq_true', Bool.not_eq_false', Int.not_lt, Int.not_le, Bool.not_true, Bool.not_false, Int.toNat_natCast, tn1, tn2, tnn, bne_iff_ne, beq_iff_eq, beq_eq_false_iff_ne, ne_eq, Decidable.not_not] at h15)
                    refine stS rfl rfl rfl (.inl rfl) rfl rfl ?_
                    refine stS rfl rfl rfl (.inl rfl) rfl rfl ?_
                    refine stS rfl rfl rfl (.inl rfl) rfl rfl ?_
                    refine stS rfl rfl rfl (.inl rfl) rfl rfl ?_
                    refine stS rfl rfl rfl (.inl rfl) rfl rfl ?_
                    refine stS rfl rfl rfl (.inr rfl) rfl rfl ?_
                    refine stS rfl rfl rfl (.inr rfl) rfl rfl ?_
                    refine stS rfl rfl rfl (.inr rfl) rfl rfl ?_
                    refine stS rfl rfl rfl (.inr rfl) rfl rfl ?_
                    refine stS rfl rfl rfl (.inl rfl) rfl rfl ?_
                    refine st rfl rfl rfl (op_pickFO rfl rfl rfl) ?_
                    refine AOps_nil ?_
                    refine AWp_condF rfl ?_
                    refine AWp_skip ?_
                    refine ⟨(), trivial, ⟨rfl, rfl, ?_, trivial⟩, rfl⟩
                    unfold eSg; first | (rw [if_pos (by omega)]; rfl) | (rw [if_neg (by omega)]; rfl)
                · skip
                  have hi3 := eSg_le (s := s) (a := j + 1) (by omega)
                  have hr3 := runl_le s (eSg s (j + 1))
                  refine AWp_seq ?_
                  -- region 19 ref.go:41
                  refine AWp_regL ?_
                  refine st rfl rfl rfl (op_moveO rfl rfl) ?_
                  refine st rfl rfl rfl (op_moveO rfl rfl) ?_
                  refine st rfl rfl rfl (op_callF rfl rfl rfl Tryd.func42 rfl rfl (run_n s (eSg s (j + 1)) _ hs (by omega))) ?_
                  refine st rfl rfl rfl (op_assignO rfl rfl) ?_
                  refine AOps_nil ?_
                  refine AWp_seq ?_
                  -- region 20 ref.go:42
                  refine AWp_regL ?_
                  refine st rfl rfl rfl (op_moveO rfl rfl) ?_
                  refine st rfl rfl rfl (op_moveO rfl rfl) ?_
                  refine st rfl rfl rfl (op_add64 rfl rfl rfl (by omega) (by omega)) ?_
                  refine st rfl rfl rfl (op_assignO rfl rfl) ?_
                  refine AOps_nil ?_
                  refine AWp_seq ?_
                  -- region 21 ref.go:43
                  refine AWp_regL ?_
                  refine st rfl rfl rfl (op_moveO rfl rfl) ?_
                  refine st rfl rfl rfl (op_eql rfl rfl rfl) ?_
                  refine AOps_nil ?_
                  refine AWp_cond rfl (fun h18 => ?_) (fun h18 => ?_)
                  · (try rw [h18]); (try simp only [decide_eq_true_eq, decide_eq_false_iff_not, Bool.not_eq_true', Bool.not_eq_false', Int.not_lt, Int.not_le, Bool.not_true, Bool.not_false, Int.toNat_natCast, tn1, tn2, tnn, bne_iff_ne, beq_iff_eq, beq_eq_false_iff_ne, ne_eq, Decidable.not_not] at h18)
                    refine AWp_seq ?_
                    -- region 22 ref.go:44
                    refine AWp_regL ?_
                    refine st rfl rfl rfl (op_moveO rfl rfl) ?_
                    refine st rfl rfl rfl (op_assignO rfl rfl) ?_
                    refine st rfl rfl rfl (op_assignO rfl rfl) ?_
                    refine AOps_nil ?_
                    refine AWp_ret ?_
                    (try simp only [blockQ, thenQ])
                    first | (have hE2 : rEnd s a = (eSg s (j + 1), false) := by rw [hE]; unfold ePow; rw [if_pos (by omega), if_pos (by omega)]); rw [hE2]; (refine ResQ_20 rfl rfl hcl (by simp [AV.lt, AV.ltL]) (Ret_of ?_)); congr 3; dsimp only; omega | (have hE2 : rEnd s a = (eSg s (j + 1) + runl s (eSg s (j + 1)), true) := by rw [hE]; unfold ePow; rw [if_pos (by omega), if_neg (by omega)]); rw [hE2]; exact ResQ_20 rfl rfl hcl (by simp [AV.lt, AV.ltL]) (Ret_of rfl) | (have hE2 : rEnd s a = (j, true) := by rw [hE]; unfold ePow; rw [if_neg (by omega)]); rw [hE2]; exact ResQ_20 rfl rfl hcl (by simp [AV.lt, AV.ltL]) (Ret_of rfl)
                  · (try rw [h18]); (try simp only [decide_eq_true_eq, decide_eq_false_iff_not, Bool.not_eq_true', Bool.not_eq_false', Int.not_lt, Int.not_le, Bool.not_true, Bool.not_false, Int.toNat_natCast, tn1, tn2, tnn, bne_iff_ne, beq_iff_eq, beq_eq_false_iff_ne, ne_eq, Decidable.not_not] at h18)
                    refine AWp_skip ?_
                    refine AWp_seq ?_
                    -- region 23 ref.go:47
                    refine AWp_regL ?_
                    refine st rfl rfl rfl (op_moveO rfl rfl) ?_
                    refine st rfl rfl rfl (op_assignO rfl rfl) ?_
                    refine st rfl rfl rfl (op_assignO rfl rfl) ?_
                    refine AOps_nil ?_
                    refine AWp_ret ?_
                    (try simp only [blockQ, thenQ])
                    first | (have hE2 : rEnd s a = (eSg s (j + 1), false) := by rw [hE]; unfold ePow; rw [if_pos (by omega), if_pos (by omega)]); rw [hE2]; (refine ResQ_20 rfl rfl hcl (by simp [AV.lt, AV.ltL]) (Ret_of ?_)); congr 3; dsimp only; omega | (have hE2 : rEnd s a = (eSg s (j + 1) + runl s (eSg s (j + 1)), true) := by rw [hE]; unfold ePow; rw [if_pos (by omega), if_neg (by omega)]); rw [hE2]; exact ResQ_20 rfl rfl hcl (by simp [AV.lt, AV.ltL]) (Ret_of rfl) | (have hE2 : rEnd s a = (j, true) := by rw [hE]; unfold ePow; rw [if_neg (by omega)]); rw [hE2]; exact ResQ_20 rfl rfl hcl (by simp [AV.lt, AV.ltL]) (Ret_of rfl)
              · (try rw [h14]); (try simp only [decide_eq_true_eq, decide_eq_false_iff_not, Bool.not_eq_true', Bool.not_eq_false', Int.not_lt, Int.not_le, Bool.not_true, Bool.not_false, Int.toNat_natCast, tn1, tn2, tnn, bne_iff_ne, beq_iff_eq, beq_eq_false_iff_ne, ne_eq, Decidable.not_not] at h14)
                refine AWp_skip ?_
                refine AWp_seq ?_
                -- region 23 ref.go:47
                refine AWp_regL ?_
                refine st rfl rfl rfl (op_moveO rfl rfl) ?_
                refine st rfl rfl rfl (op_assignO rfl rfl) ?_
                refine st rfl rfl rfl (op_assignO rfl rfl) ?_
                refine AOps_nil ?_
                refine AWp_ret ?_
                (try simp only [blockQ, thenQ])
                first | (have hE2 : rEnd s a = (eSg s (j + 1), false) := by rw [hE]; unfold ePow; rw [if_pos (by omega), if_pos (by omega)]); rw [hE2]; (refine ResQ_20 rfl rfl hcl (by simp [AV.lt, AV.ltL]) (Ret_of ?_)); congr 3; dsimp only; omega | (have hE2 : rEnd s a = (eSg s (j + 1) + runl s (eSg s (j + 1)), true) := by rw [hE]; unfold ePow; rw [if_pos (by omega), if_neg (by omega)]); rw [hE2]; exact ResQ_20 rfl rfl hcl (by simp [AV.lt, AV.ltL]) (Ret_of rfl) | (have hE2 : rEnd s a = (j, true) := by rw [hE]; unfold ePow; rw [if_neg (by omega)]); rw [hE2]; exact ResQ_20 rfl rfl hcl (by simp [AV.lt, AV.ltL]) (Ret_of rfl)
          · rw [h8]; (try simp only [decide_eq_true_eq, decide_eq_false_iff_not, Bool.not_eq_true', Bool.not_eq_false', Int.not_lt, Int.not_le, Bool.not_true, Bool.not_false, Int.toNat_natCast, tn1, tn2, tnn, bne_iff_ne, beq_iff_eq, beq_eq_false_iff_ne, ne_eq, Decidable.not_not] at h8)
            refine stS rfl rfl rfl (.inl rfl) rfl rfl ?_
            refine stS rfl rfl rfl (.inl rfl) rfl rfl ?_
            refine stS rfl rfl rfl (.inl rfl) rfl rfl ?_
            refine stS rfl rfl rfl (.inl rfl) rfl rfl ?_
            refine stS rfl rfl rfl (.inl rfl) rfl rfl ?_
            refine stS rfl rfl rfl (.inr rfl) rfl rfl ?_
            refine stS rfl rfl rfl (.inr rfl) rfl rfl ?_
            refine stS rfl rfl rfl (.inr rfl) rfl rfl ?_
            refine stS rfl rfl rfl (.inr rfl) rfl rfl ?_
            refine stS rfl rfl rfl (.inl rfl) rfl rfl ?_
            refine st rfl rfl rfl (op_pickFO rfl rfl rfl) ?_
            refine AOps_nil ?_
            refine AWp_condF rfl ?_
            refine AWp_skip ?_
            refine AWp_seq ?_
            -- region 23 ref.go:47
            refine AWp_regL ?_
            refine st rfl rfl rfl (op_moveO rfl rfl) ?_
            refine st rfl rfl rfl (op_assignO rfl rfl) ?_
            refine st rfl rfl rfl (op_assignO rfl rfl) ?_
            refine AOps_nil ?_
            refine AWp_ret ?_
            (try simp only [blockQ, thenQ])
            first | (have hE2 : rEnd s a = (eSg s (j + 1), false) := by rw [hE]; unfold ePow; rw [if_pos (by omega), if_pos (by omega)]); rw [hE2]; (refine ResQ_20 rfl rfl hcl (by simp [AV.lt, AV.ltL]) (Ret_of ?_)); congr 3; dsimp only; omega | (have hE2 : rEnd s a = (eSg s (j + 1) + runl s (eSg s (j + 1)), true) := by rw [hE]; unfold ePow; rw [if_pos (by omega), if_neg (by omega)]); rw [hE2]; exact ResQ_20 rfl rfl hcl (by simp [AV.lt, AV.ltL]) (Ret_of rfl) | (have hE2 : rEnd s a = (j, true) := by rw [hE]; unfold ePow; rw [if_neg (by omega)]); rw [hE2]; exact ResQ_20 rfl rfl hcl (by simp [AV.lt, AV.ltL]) (Ret_of rfl)

theorem rnum_c (s : ByteArray) (σ : List AO) (hs : s.size ≤ 1000000) : ACalls Tryd.prog 7 [.str s] σ (Ret (.tup [.agg (ncells (rNum s).1), .int .i64 (rNum s).2]) σ) := by
  refine ACalls_bodyC Tryd.func7 rfl Tryd.ntmps7 (by rw [Tryd.results7]; exact (.ck Tryd.isAgg24 Tryd.sizeOf24 (.t .nil))) (Nat.le_of_ble_eq_true rfl) (fun hcl hal => ?_)
  refine AWp_seq ?_
  -- region 0 ref.go:65
  refine AWp_regL ?_
  refine st rfl rfl rfl (op_alloc0 (cs := [_, _, _]) rfl Tryd.zeroValue24 rfl) ?_
  refine st rfl rfl rfl (op_assignO rfl rfl) ?_
  refine AOps_nil ?_
  refine AWp_seq ?_
  -- region 1 ref.go:66
  refine AWp_regL ?_
  refine st rfl rfl rfl (op_moveO rfl rfl) ?_
  refine st rfl rfl rfl (op_callF rfl rfl rfl Tryd.func22 rfl rfl (end_c s 0 _ hs (by omega))) ?_
  refine st rfl rfl rfl (op_moveO rfl rfl) ?_
  refine st rfl rfl rfl (op_extract rfl rfl rfl) ?_
  refine st rfl rfl rfl (op_extract rfl rfl rfl) ?_
  refine st rfl rfl rfl (op_assignO rfl rfl) ?_
  refine st rfl rfl rfl (op_assignO rfl rfl) ?_
  refine AOps_nil ?_
  refine AWp_seq ?_
  refine AWp_seq ?_
  -- region 2 ref.go:67
  refine AWp_regL ?_
  refine st rfl rfl rfl (op_moveO rfl rfl) ?_
  refine st rfl rfl rfl (op_not rfl rfl) ?_
  refine st rfl rfl rfl (op_moveO rfl rfl) ?_
  refine AOps_split 25 rfl (fun h1 => ?_) (fun h1 => ?_)
  · rw [h1]; (try simp only [decide_eq_true_eq, decide_eq_false_iff_not, Bool.not_eq_true', Bool.not_eq_false', Int.not_lt, Int.not_le, Bool.not_true, Bool.not_false, Int.toNat_natCast, tn1, tn2, tm1, tnn, bne_iff_ne, beq_iff_eq, beq_eq_false_iff_ne, ne_eq, Decidable.not_not] at h1)
    refine stS rfl rfl rfl (.inl rfl) rfl rfl ?_
    refine stS rfl rfl rfl (.inl rfl) rfl rfl ?_
    refine stS rfl rfl rfl (.inl rfl) rfl rfl ?_
    refine stS rfl rfl rfl (.inl rfl) rfl rfl ?_
    refine st rfl rfl rfl (op_pickTO rfl rfl rfl) ?_
    refine AOps_nil ?_
    refine AWp_condT rfl ?_
    refine AWp_seq ?_
    -- region 3 ref.go:68
    refine AWp_regL ?_
    refine st rfl rfl rfl (op_buildP (cs := [_, _, _]) [(0, 1), (1, 1), (2, 1)] rfl Tryd.underlying24 Tryd.zeroValue24 ⟨rfl, Tryd.sizeOf4, ⟨rfl, Tryd.sizeOf9, ⟨rfl, Tryd.sizeOf3, trivial⟩⟩⟩ rfl rfl) ?_
    refine stN rfl rfl ((by first | exact op_storeO (r := [_, _, _]) rfl Tryd.sizeOf24 rfl rfl rfl rfl rfl (by decide) | exact op_storeP (r := [_, _, _]) rfl Tryd.sizeOf24 rfl rfl rfl (by assumption) rfl (by decide))) ?_
    refine st rfl rfl rfl (op_assignO rfl rfl) ?_
    refine AOps_nil ?_
    refine AWp_ret ?_
    (try simp only [blockQ, thenQ])
    have hE : rNum s = ({}, 1) := by unfold rNum; rw [if_pos (.inl (by simpa using h1))]
    rw [hE]; exact RQ_ret (rkvs_cons (rkv_ck rfl rfl rfl) (rkvs_cons (rkv_t rfl) rfl)) hcl (by simp [rks, AV.lt, AV.ltL, ofConst1, ncells]) (Ret_of rfl)
  · rw [h1]; (try simp only [decide_eq_true_eq, decide_eq_false_iff_not, Bool.not_eq_true', Bool.not_eq_false', Int.not_lt, Int.not_le, Bool.not_true, Bool.not_false, Int.toNat_natCast, tn1, tn2, tm1, tnn, bne_iff_ne, beq_iff_eq, beq_eq_false_iff_ne, ne_eq, Decidable.not_not] at h1)
    refine stG rfl rfl rfl rfl rfl rfl (op_moveO rfl rfl) ?_
    refine stG rfl rfl rfl rfl rfl rfl (op_moveO rfl rfl) ?_
    refine stG rfl rfl rfl rfl rfl rfl (op_lenStr rfl rfl Tryd.underlying9 rfl) ?_
    refine stG rfl rfl rfl rfl rfl rfl (op_neq rfl rfl rfl) ?_
    refine st rfl rfl rfl (op_pickFO rfl rfl rfl) ?_
    refine AOps_nil ?_
    refine AWp_cond rfl (fun h2 => ?_) (fun h2 => ?_)
    · (try rw [h2]); (try simp only [decide_eq_true_eq, decide_eq_false_iff_not, Bool.not_eq_true', Bool.not_eq_false', Int.not_lt, Int.not_le, Bool.not_true, Bool.not_false, Int.toNat_natCast, tn1, tn2, tm1, tnn, bne_iff_ne, beq_iff_eq, beq_eq_false_iff_ne, ne_eq, Decidable.not_not] at h2)
      refine AWp_seq ?_
      -- region 3 ref.go:68
      refine AWp_regL ?_
      refine st rfl rfl rfl (op_buildP (cs := [_, _, _]) [(0, 1), (1, 1), (2, 1)] rfl Tryd.underlying24 Tryd.zeroValue24 ⟨rfl, Tryd.sizeOf4, ⟨rfl, Tryd.sizeOf9, ⟨rfl, Tryd.sizeOf3, trivial⟩⟩⟩ rfl rfl) ?_
      refine stN rfl rfl ((by first | exact op_storeO (r := [_, _, _]) rfl Tryd.sizeOf24 rfl rfl rfl rfl rfl (by decide) | exact op_storeP (r := [_, _, _]) rfl Tryd.sizeOf24 rfl rfl rfl (by assumption) rfl (by decide))) ?_
      refine st rfl rfl rfl (op_assignO rfl rfl) ?_
      refine AOps_nil ?_
      refine AWp_ret ?_
      (try simp only [blockQ, thenQ])
      have hE : rNum s = ({}, 1) := by unfold rNum; rw [if_pos (.inr (by omega))]
      rw [hE]; exact RQ_ret (rkvs_cons (rkv_ck rfl rfl rfl) (rkvs_cons (rkv_t rfl) rfl)) hcl (by simp [rks, AV.lt, AV.ltL, ofConst1, ncells]) (Ret_of rfl)
    · (try rw [h2]); (try simp only [decide_eq_true_eq, decide_eq_false_iff_not, Bool.not_eq_true', Bool.not_eq_false', Int.not_lt, Int.not_le, Bool.not_true, Bool.not_false, Int.toNat_natCast, tn1, tn2, tm1, tnn, bne_iff_ne, beq_iff_eq, beq_eq_false_iff_ne, ne_eq, Decidable.not_not] at h2)
      refine AWp_skip ?_
      refine AWp_seq ?_
      -- region 4 ref.go:70
      refine AWp_regL ?_
      refine st rfl rfl rfl (op_allocO (cs := [_, _, _]) 1 rfl rfl Tryd.zeroValue24 rfl) ?_
      refine AOps_nil ?_
      refine AWp_seq ?_
      -- region 5 ref.go:71
      refine AWp_regL ?_
      refine st rfl rfl rfl (op_assignO rfl rfl) ?_
      refine AOps_nil ?_
      refine AWp_seq ?_
      -- region 6 ref.go:72
      refine AWp_regL ?_
      refine st rfl rfl rfl (op_assignO rfl rfl) ?_
      refine AOps_nil ?_
      refine AWp_seq ?_
      -- region 7 ref.go:73
      refine AWp_regL ?_
      refine st rfl rfl rfl (op_assignO rfl rfl) ?_
      refine AOps_nil ?_
      refine AWp_seq ?_
      -- region 8 ref.go:74
      refine AWp_regL ?_
      refine st rfl rfl rfl (op_assignO rfl rfl) ?_
      refine AOps_nil ?_
      refine AWp_seq ?_
      -- region 9 ref.go:75
      refine AWp_regL ?_
      refine st rfl rfl rfl (op_assignO rfl rfl) ?_
      refine AOps_nil ?_
      refine AWp_seq ?_
      -- region 10 ref.go:76
      refine AWp_regL ?_
      refine st rfl rfl rfl (op_assignO rfl rfl) ?_
      refine AOps_nil ?_
      refine AWp_seq ?_
      refine AWp_seq ?_
      -- region 11 ref.go:77
      refine AWp_regL ?_
      refine st rfl rfl rfl (op_assignO rfl rfl) ?_
      refine AOps_nil ?_
      refine AWp_block ?_
      -- loop 0 LIVE 0:param 2:alloc 3:assign 6:alloc 7:assign 8:assign 9:assign 10:assign 11:assign 12:assign 13:assign
      refine AWp_loop (ι := Nat × NSt) (fun q => nloop s q.1 q.2 = nloop s 0 nst0 ∧ q.1 ≤ s.size ∧ (0 ≤ q.2.behind ∧ q.2.behind ≤ q.1) ∧ q.2.digits.size ≤ q.1 ∧ 0 ≤ q.2.exp ∧ q.2.exp ≤ 1000000) (fun q => ⟨[], [(0, .str s), (2, .ptr (σ.length + 0) 0), (6, .ptr (σ.length + 1) 0), (7, .str q.2.digits), (8, .int .i64 q.2.behind), (9, .bool q.2.point), (10, .int .i64 q.2.exp), (11, .bool q.2.down), (12, .bool q.2.power), (13, .int .i64 (q.1 : Int))]⟩) (fun q => σ ++ [.box [.bool false, .str e0, .int .i64 0], .box [.bool q.2.neg, .str e0, .int .i64 0]]) (fun q => s.size - q.1) ((0, nst0)) (⟨rfl, Nat.zero_le _, ⟨Int.le_refl _, Int.le_refl _⟩, Nat.le_refl _, Int.le_refl _, by decide⟩) ?_ rfl (fun q hq => ?_)
      · exact ⟨rfl, rfl, rfl, rfl, rfl, rfl, rfl, rfl, rfl, rfl, rfl, trivial⟩
      obtain ⟨i, ng, dn, pt, pw, d, b, x⟩ := q
      obtain ⟨hq1, hq2, hq3, hq4, hq5, hq6⟩ := hq
      simp only at hq1 hq2 hq3 hq4 hq5 hq6 ⊢
      have hbl := bat_lt s i
      have h1s : (ByteArray.mk #[u8b ((bat s i).toNat : Int)]).size = 1 := rfl
      refine AWp_seq ?_
      refine AWp_seq ?_
      -- region 12 ref.go:77
      refine AWp_regL ?_
      refine st rfl rfl rfl (op_moveO rfl rfl) ?_
      refine st rfl rfl rfl (op_moveO rfl rfl) ?_
      refine st rfl rfl rfl (op_lenStr rfl rfl Tryd.underlying9 rfl) ?_
      refine st rfl rfl rfl (op_lss rfl rfl rfl) ?_
      refine AOps_nil ?_
      refine AWp_cond rfl (fun h3 => ?_) (fun h3 => ?_)
      · (try rw [h3]); (try simp only [decide_eq_true_eq, decide_eq_false_iff_not, Bool.not_eq_true', Bool.not_eq_false', Int.not_lt, Int.not_le, Bool.not_true, Bool.not_false, Int.toNat_natCast, tn1, tn2, tm1, tnn, bne_iff_ne, beq_iff_eq, beq_eq_false_iff_ne, ne_eq, Decidable.not_not] at h3)
        refine AWp_skip ?_
        refine AWp_seq ?_
        refine AWp_block ?_
        refine AWp_seq ?_
        -- region 14 ref.go:78
        refine AWp_regL ?_
        refine st rfl rfl rfl (op_moveO rfl rfl) ?_
        refine st rfl rfl rfl (op_moveO rfl rfl) ?_
        refine st rfl rfl rfl (op_index_strB rfl Tryd.underlying9 rfl rfl (by omega) (by omega)) ?_
        simp only [Int.toNat_natCast]
        refine st rfl rfl rfl (op_assignO rfl rfl) ?_
        refine AOps_nil ?_
        refine AWp_seq ?_
        -- region 15 ref.go:79
        refine AWp_regL ?_
        refine st rfl rfl rfl (op_moveO rfl rfl) ?_
        refine AOps_nil ?_
        refine AWp_cond rfl (fun h4 => ?_) (fun h4 => ?_)
        · (try rw [h4]); (try simp only [decide_eq_true_eq, decide_eq_false_iff_not, Bool.not_eq_true', Bool.not_eq_false', Int.not_lt, Int.not_le, Bool.not_true, Bool.not_false, Int.toNat_natCast, tn1, tn2, tm1, tnn, bne_iff_ne, beq_iff_eq, beq_eq_false_iff_ne, ne_eq, Decidable.not_not] at h4)
          subst h4
          refine AWp_seq ?_
          refine AWp_seq ?_
          -- region 16 ref.go:80
          refine AWp_regL ?_
          refine st rfl rfl rfl (op_moveO rfl rfl) ?_
          refine st rfl rfl rfl (op_eql rfl rfl rfl) ?_
          refine AOps_nil ?_
          refine AWp_cond rfl (fun h5 => ?_) (fun h5 => ?_)
          · (try rw [h5]); (try simp only [decide_eq_true_eq, decide_eq_false_iff_not, Bool.not_eq_true', Bool.not_eq_false', Int.not_lt, Int.not_le, Bool.not_true, Bool.not_false, Int.toNat_natCast, tn1, tn2, tm1, tnn, bne_iff_ne, beq_iff_eq, beq_eq_false_iff_ne, ne_eq, Decidable.not_not] at h5)
            -- region 17 ref.go:81
            refine AWp_regL ?_
            refine st rfl rfl rfl (op_assignO rfl rfl) ?_
            refine AOps_nil ?_
            refine AWp_seq ?_
            -- region 18 ref.go:83
            refine AWp_regL ?_
            refine st rfl rfl rfl (op_moveO rfl rfl) ?_
            refine st rfl rfl rfl (op_geq rfl rfl rfl) ?_
            refine st rfl rfl rfl (op_moveO rfl rfl) ?_
            refine AOps_split 46 rfl (fun h6 => ?_) (fun h6 => ?_)
            · rw [h6]; (try simp only [decide_eq_true_eq, decide_eq_false_iff_not, Bool.not_eq_true', Bool.not_eq_false', Int.not_lt, Int.not_le, Bool.not_true, Bool.not_false, Int.toNat_natCast, tn1, tn2, tm1, tnn, bne_iff_ne, beq_iff_eq, beq_eq_false_iff_ne, ne_eq, Decidable.not_not] at h6)
              refine stG rfl rfl rfl rfl rfl rfl (op_moveO rfl rfl) ?_
              refine stG rfl rfl rfl rfl rfl rfl (op_leq rfl rfl rfl) ?_
              refine st rfl rfl rfl (op_pickTO rfl rfl rfl) ?_
              refine AOps_nil ?_
              refine AWp_cond rfl (fun h7 => ?_) (fun h7 => ?_)
              · (try rw [h7]); (try simp only [decide_eq_true_eq, decide_eq_false_iff_not, Bool.not_eq_true', Bool.not_eq_false', Int.not_lt, Int.not_le, Bool.not_true, Bool.not_false, Int.toNat_natCast, tn1, tn2, tm1, tnn, bne_iff_ne, beq_iff_eq, beq_eq_false_iff_ne, ne_eq, Decidable.not_not] at h7)
                -- region 19 ref.go:84
                refine AWp_regL ?_
                refine st rfl rfl rfl (op_moveO rfl rfl) ?_
                refine st rfl rfl rfl (op_mul64 rfl rfl rfl (by omega) (by omega)) ?_
                refine st rfl rfl rfl (op_moveO rfl rfl) ?_
                refine st rfl rfl rfl (op_convIn rfl (by rw [Tryd.underlying5]; rfl) Tryd.underlying3 rfl (by first | rfl | exact wrap64_in (by omega) (by omega) | exact wrapu8_in (by omega) (by omega) | (simp only [IntKind.wrap]; omega))) ?_
                refine st rfl rfl rfl (op_add64 rfl rfl rfl (by omega) (by omega)) ?_
                refine st rfl rfl rfl (op_sub64 rfl rfl rfl (by omega) (by omega)) ?_
                refine st rfl rfl rfl (op_min2 rfl rfl rfl) ?_
                refine st rfl rfl rfl (op_assignO rfl rfl) ?_
                refine AOps_nil ?_
                -- region 13 ref.go:77
                refine AWp_regL ?_
                refine st rfl rfl rfl (op_moveO rfl rfl) ?_
                refine st rfl rfl rfl (op_add64 rfl rfl rfl (by omega) (by omega)) ?_
                refine st rfl rfl rfl (op_assignO rfl rfl) ?_
                refine AOps_nil ?_
                first | (exfalso; omega; done) | exact ⟨(i + 1, ⟨ng, true, pt, true, d, b, x⟩), σ.length + 2, ⟨by rw [← hq1]; exact (nl1 (by omega) (by omega)).symm, by simp only; omega, by simp only; omega, by simp only [ByteArray.size_append]; omega, by simp only; omega, by simp only; omega⟩, by simp only; omega, by simp, ⟨rfl, rfl, rfl, rfl, rfl, rfl, rfl, rfl, rfl, rfl, rfl, trivial⟩, closed_own 2 hcl (by simp [ownLt, AO.cells, AV.ltL, AV.lt]), by simp [ltE, AV.lt], take_own 2⟩ | exact ⟨(i + 1, ⟨ng, dn, pt, true, d, b, min (10 * x + (bat s i).toNat - 48) 1000000⟩), σ.length + 2, ⟨by rw [← hq1]; exact (nl2 (by omega) (by omega)).symm, by simp only; omega, by simp only; omega, by simp only [ByteArray.size_append]; omega, by simp only; omega, by simp only; omega⟩, by simp only; omega, by simp, ⟨rfl, rfl, rfl, rfl, rfl, rfl, rfl, rfl, rfl, rfl, rfl, trivial⟩, closed_own 2 hcl (by simp [ownLt, AO.cells, AV.ltL, AV.lt]), by simp [ltE, AV.lt], take_own 2⟩ | exact ⟨(i + 1, ⟨ng, dn, pt, true, d, b, x⟩), σ.length + 2, ⟨by rw [← hq1]; exact (nl3 (by omega) (by omega) (by omega)).symm, by simp only; omega, by simp only; omega, by simp only [ByteArray.size_append]; omega, by simp only; omega, by simp only; omega⟩, by simp only; omega, by simp, ⟨rfl, rfl, rfl, rfl, rfl, rfl, rfl, rfl, rfl, rfl, rfl, trivial⟩, closed_own 2 hcl (by simp [ownLt, AO.cells, AV.ltL, AV.lt]), by simp [ltE, AV.lt], take_own 2⟩ | exact ⟨(i + 1, ⟨true, dn, pt, false, d, b, x⟩), σ.length + 2, ⟨by rw [← hq1]; exact (nl4 (by omega) (by omega)).symm, by simp only; omega, by simp only; omega, by simp only [ByteArray.size_append]; omega, by simp only; omega, by simp only; omega⟩, by simp only; omega, by simp, ⟨rfl, rfl, rfl, rfl, rfl, rfl, rfl, rfl, rfl, rfl, rfl, trivial⟩, closed_own 2 hcl (by simp [ownLt, AO.cells, AV.ltL, AV.lt]), by simp [ltE, AV.lt], take_own 2⟩ | exact ⟨(i + 1, ⟨ng, dn, true, false, d, b, x⟩), σ.length + 2, ⟨by rw [← hq1]; exact (nl5 (by omega) (by omega)).symm, by simp only; omega, by simp only; omega, by simp only [ByteArray.size_append]; omega, by simp only; omega, by simp only; omega⟩, by simp only; omega, by simp, ⟨rfl, rfl, rfl, rfl, rfl, rfl, rfl, rfl, rfl, rfl, rfl, trivial⟩, closed_own 2 hcl (by simp [ownLt, AO.cells, AV.ltL, AV.lt]), by simp [ltE, AV.lt], take_own 2⟩ | exact ⟨(i + 1, ⟨ng, dn, pt, true, d, b, x⟩), σ.length + 2, ⟨by rw [← hq1]; exact (nl6 (by omega) (by omega)).symm, by simp only; omega, by simp only; omega, by simp only [ByteArray.size_append]; omega, by simp only; omega, by simp only; omega⟩, by simp only; omega, by simp, ⟨rfl, rfl, rfl, rfl, rfl, rfl, rfl, rfl, rfl, rfl, rfl, trivial⟩, closed_own 2 hcl (by simp [ownLt, AO.cells, AV.ltL, AV.lt]), by simp [ltE, AV.lt], take_own 2⟩ | exact ⟨(i + 1, ⟨ng, dn, true, false, d ++ ⟨#[u8b ((bat s i).toNat : Int)]⟩, b + 1, x⟩), σ.length + 2, ⟨by rw [← hq1]; exact (nl7 (by omega) (by omega) (by omega) (by omega)).symm, by simp only; omega, by simp only; omega, by simp only [ByteArray.size_append]; omega, by simp only; omega, by simp only; omega⟩, by simp only; omega, by simp, ⟨rfl, rfl, rfl, rfl, rfl, rfl, rfl, rfl, rfl, rfl, rfl, trivial⟩, closed_own 2 hcl (by simp [ownLt, AO.cells, AV.ltL, AV.lt]), by simp [ltE, AV.lt], take_own 2⟩ | exact ⟨(i + 1, ⟨ng, dn, false, false, d ++ ⟨#[u8b ((bat s i).toNat : Int)]⟩, b, x⟩), σ.length + 2, ⟨by rw [← hq1]; exact (nl8 (by omega) (by omega) (by omega) (by omega)).symm, by simp only; omega, by simp only; omega, by simp only [ByteArray.size_append]; omega, by simp only; omega, by simp only; omega⟩, by simp only; omega, by simp, ⟨rfl, rfl, rfl, rfl, rfl, rfl, rfl, rfl, rfl, rfl, rfl, trivial⟩, closed_own 2 hcl (by simp [ownLt, AO.cells, AV.ltL, AV.lt]), by simp [ltE, AV.lt], take_own 2⟩
              · (try rw [h7]); (try simp only [decide_eq_true_eq, decide_eq_false_iff_not, Bool.not_eq_true', Bool.not_eq_false', Int.not_lt, Int.not_le, Bool.not_true, Bool.not_false, Int.toNat_natCast, tn1, tn2, tm1, tnn, bne_iff_ne, beq_iff_eq, beq_eq_false_iff_ne, ne_eq, Decidable.not_not] at h7)
                refine AWp_skip ?_
                -- region 13 ref.go:77
                refine AWp_regL ?_
                refine st rfl rfl rfl (op_moveO rfl rfl) ?_
                refine st rfl rfl rfl (op_add64 rfl rfl rfl (by omega) (by omega)) ?_
                refine st rfl rfl rfl (op_assignO rfl rfl) ?_
                refine AOps_nil ?_
                first | (exfalso; omega; done) | exact ⟨(i + 1, ⟨ng, true, pt, true, d, b, x⟩), σ.length + 2, ⟨by rw [← hq1]; exact (nl1 (by omega) (by omega)).symm, by simp only; omega, by simp only; omega, by simp only [ByteArray.size_append]; omega, by simp only; omega, by simp only; omega⟩, by simp only; omega, by simp, ⟨rfl, rfl, rfl, rfl, rfl, rfl, rfl, rfl, rfl, rfl, rfl, trivial⟩, closed_own 2 hcl (by simp [ownLt, AO.cells, AV.ltL, AV.lt]), by simp [ltE, AV.lt], take_own 2⟩ | exact ⟨(i + 1, ⟨ng, dn, pt, true, d, b, min (10 * x + (bat s i).toNat - 48) 1000000⟩), σ.length + 2, ⟨by rw [← hq1]; exact (nl2 (by omega) (by omega)).symm, by simp only; omega, by simp only; omega, by simp only [ByteArray.size_append]; omega, by simp only; omega, by simp only; omega⟩, by simp only; omega, by simp, ⟨rfl, rfl, rfl, rfl, rfl, rfl, rfl, rfl, rfl, rfl, rfl, trivial⟩, closed_own 2 hcl (by simp [ownLt, AO.cells, AV.ltL, AV.lt]), by simp [ltE, AV.lt], take_own 2⟩ | exact ⟨(i + 1, ⟨ng, dn, pt, true, d, b, x⟩), σ.length + 2, ⟨by rw [← hq1]; exact (nl3 (by omega) (by omega) (by omega)).symm, by simp only; omega, by simp only; omega, by simp only [ByteArray.size_append]; omega, by simp only; omega, by simp only; omega⟩, by simp only; omega, by simp, ⟨rfl, rfl, rfl, rfl, rfl, rfl, rfl, rfl, rfl, rfl, rfl, trivial⟩, closed_own 2 hcl (by simp [ownLt, AO.cells, AV.ltL, AV.lt]), by simp [ltE, AV.lt], take_own 2⟩ | exact ⟨(i + 1, ⟨true, dn, pt, false, d, b, x⟩), σ.length + 2, ⟨by rw [← hq1]; exact (nl4 (by omega) (by omega)).symm, by simp only; omega, by simp only; omega, by simp only [ByteArray.size_append]; omega, by simp only; omega, by simp only; omega⟩, by simp only; omega, by simp, ⟨rfl, rfl, rfl, rfl, rfl, rfl, rfl, rfl, rfl, rfl, rfl, trivial⟩, closed_own 2 hcl (by simp [ownLt, AO.cells, AV.ltL, AV.lt]), by simp [ltE, AV.lt], take_own 2⟩ | exact ⟨(i + 1, ⟨ng, dn, true, false, d, b, x⟩), σ.length + 2, ⟨by rw [← hq1]; exact (nl5 (by omega) (by omega)).symm, by simp only; omega, by simp only; omega, by simp only [ByteArray.size_append]; omega, by simp only; omega, by simp only; omega⟩, by simp only; omega, by simp, ⟨rfl, rfl, rfl, rfl, rfl, rfl, rfl, rfl, rfl, rfl, rfl, trivial⟩, closed_own 2 hcl (by simp [ownLt, AO.cells, AV.ltL, AV.lt]), by simp [ltE, AV.lt], take_own 2⟩ | exact ⟨(i + 1, ⟨ng, dn, pt, true, d, b, x⟩), σ.length + 2, ⟨by rw [← hq1]; exact (nl6 (by omega) (by omega)).symm, by simp only; omega, by simp only; omega, by simp only [ByteArray.size_append]; omega, by simp only; omega, by simp only; omega⟩, by simp only; omega, by simp, ⟨rfl, rfl, rfl, rfl, rfl, rfl, rfl, rfl, rfl, rfl, rfl, trivial⟩, closed_own 2 hcl (by simp [ownLt, AO.cells, AV.ltL, AV.lt]), by simp [ltE, AV.lt], take_own 2⟩ | exact ⟨(i + 1, ⟨ng, dn, true, false, d ++ ⟨#[u8b ((bat s i).toNat : Int)]⟩, b + 1, x⟩), σ.length + 2, ⟨by rw [← hq1]; exact (nl7 (by omega) (by omega) (by omega) (by omega)).symm, by simp only; omega, by simp only; omega, by simp only [ByteArray.size_append]; omega, by simp only; omega, by simp only; omega⟩, by simp only; omega, by simp, ⟨rfl, rfl, rfl, rfl, rfl, rfl, rfl, rfl, rfl, rfl, rfl, trivial⟩, closed_own 2 hcl (by simp [ownLt, AO.cells, AV.ltL, AV.lt]), by simp [ltE, AV.lt], take_own 2⟩ | exact ⟨(i + 1, ⟨ng, dn, false, false, d ++ ⟨#[u8b ((bat s i).toNat : Int)]⟩, b, x⟩), σ.length + 2, ⟨by rw [← hq1]; exact (nl8 (by omega) (by omega) (by omega) (by omega)).symm, by simp only; omega, by simp only; omega, by simp only [ByteArray.size_append]; omega, by simp only; omega, by simp only; omega⟩, by simp only; omega, by simp, ⟨rfl, rfl, rfl, rfl, rfl, rfl, rfl, rfl, rfl, rfl, rfl, trivial⟩, closed_own 2 hcl (by simp [ownLt, AO.cells, AV.ltL, AV.lt]), by simp [ltE, AV.lt], take_own 2⟩
            · rw [h6]; (try simp only [decide_eq_true_eq, decide_eq_false_iff_not, Bool.not_eq_true', Bool.not_eq_false', Int.not_lt, Int.not_le, Bool.not_true, Bool.not_false, Int.toNat_natCast, tn1, tn2, tm1, tnn, bne_iff_ne, beq_iff_eq, beq_eq_false_iff_ne, ne_eq, Decidable.not_not] at h6)
              refine stS rfl rfl rfl (.inl rfl) rfl rfl ?_
              refine stS rfl rfl rfl (.inl rfl) rfl rfl ?_
              refine st rfl rfl rfl (op_pickFO rfl rfl rfl) ?_
              refine AOps_nil ?_
              refine AWp_condF rfl ?_
              refine AWp_skip ?_
              -- region 13 ref.go:77
              refine AWp_regL ?_
              refine st rfl rfl rfl (op_moveO rfl rfl) ?_
              refine st rfl rfl rfl (op_add64 rfl rfl rfl (by omega) (by omega)) ?_
              refine st rfl rfl rfl (op_assignO rfl rfl) ?_
              refine AOps_nil ?_
              first | (exfalso; omega; done) | exact ⟨(i + 1, ⟨ng, true, pt, true, d, b, x⟩), σ.length + 2, ⟨by rw [← hq1]; exact (nl1 (by omega) (by omega)).symm, by simp only; omega, by simp only; omega, by simp only [ByteArray.size_append]; omega, by simp only; omega, by simp only; omega⟩, by simp only; omega, by simp, ⟨rfl, rfl, rfl, rfl, rfl, rfl, rfl, rfl, rfl, rfl, rfl, trivial⟩, closed_own 2 hcl (by simp [ownLt, AO.cells, AV.ltL, AV.lt]), by simp [ltE, AV.lt], take_own 2⟩ | exact ⟨(i + 1, ⟨ng, dn, pt, true, d, b, min (10 * x + (bat s i).toNat - 48) 1000000⟩), σ.length + 2, ⟨by rw [← hq1]; exact (nl2 (by omega) (by omega)).symm, by simp only; omega, by simp only; omega, by simp only [ByteArray.size_append]; omega, by simp only; omega, by simp only; omega⟩, by simp only; omega, by simp, ⟨rfl, rfl, rfl, rfl, rfl, rfl, rfl, rfl, rfl, rfl, rfl, trivial⟩, closed_own 2 hcl (by simp [ownLt, AO.cells, AV.ltL, AV.lt]), by simp [ltE, AV.lt], take_own 2⟩ | exact ⟨(i + 1, ⟨ng, dn, pt, true, d, b, x⟩), σ.length + 2, ⟨by rw [← hq1]; exact (nl3 (by omega) (by omega) (by omega)).symm, by simp only; omega, by simp only; omega, by simp only [ByteArray.size_append]; omega, by simp only; omega, by simp only; omega⟩, by simp only; omega, by simp, ⟨rfl, rfl, rfl, rfl, rfl, rfl, rfl, rfl, rfl, rfl, rfl, trivial⟩, closed_own 2 hcl (by simp [ownLt, AO.cells, AV.ltL, AV.lt]), by simp [ltE, AV.lt], take_own 2⟩ | exact ⟨(i + 1, ⟨true, dn, pt, false, d, b, x⟩), σ.length + 2, ⟨by rw [← hq1]; exact (nl4 (by omega) (by omega)).symm, by simp only; omega, by simp only; omega, by simp only [ByteArray.size_append]; omega, by simp only; omega, by simp only; omega⟩, by simp only; omega, by simp, ⟨rfl, rfl, rfl, rfl, rfl, rfl, rfl, rfl, rfl, rfl, rfl, trivial⟩, closed_own 2 hcl (by simp [ownLt, AO.cells, AV.ltL, AV.lt]), by simp [ltE, AV.lt], take_own 2⟩ | exact ⟨(i + 1, ⟨ng, dn, true, false, d, b, x⟩), σ.length + 2, ⟨by rw [← hq1]; exact (nl5 (by omega) (by omega)).symm, by simp only; omega, by simp only; omega, by simp only [ByteArray.size_append]; omega, by simp only; omega, by simp only; omega⟩, by simp only; omega, by simp, ⟨rfl, rfl, rfl, rfl, rfl, rfl, rfl, rfl, rfl, rfl, rfl, trivial⟩, closed_own 2 hcl (by simp [ownLt, AO.cells, AV.ltL, AV.lt]), by simp [ltE, AV.lt], take_own 2⟩ | exact ⟨(i + 1, ⟨ng, dn, pt, true, d, b, x⟩), σ.length + 2, ⟨by rw [← hq1]; exact (nl6 (by omega) (by omega)).symm, by simp only; omega, by simp only; omega, by simp only [ByteArray.size_append]; omega, by simp only; omega, by simp only; omega⟩, by simp only; omega, by simp, ⟨rfl, rfl, rfl, rfl, rfl, rfl, rfl, rfl, rfl, rfl, rfl, trivial⟩, closed_own 2 hcl (by simp [ownLt, AO.cells, AV.ltL, AV.lt]), by simp [ltE, AV.lt], take_own 2⟩ | exact ⟨(i + 1, ⟨ng, dn, true, false, d ++ ⟨#[u8b ((bat s i).toNat : Int)]⟩, b + 1, x⟩), σ.length + 2, ⟨by rw [← hq1]; exact (nl7 (by omega) (by omega) (by omega) (by omega)).symm, by simp only; omega, by simp only; omega, by simp only [ByteArray.size_append]; omega, by simp only; omega, by simp only; omega⟩, by simp only; omega, by simp, ⟨rfl, rfl, rfl, rfl, rfl, rfl, rfl, rfl, rfl, rfl, rfl, trivial⟩, closed_own 2 hcl (by simp [ownLt, AO.cells, AV.ltL, AV.lt]), by simp [ltE, AV.lt], take_own 2⟩ | exact ⟨(i + 1, ⟨ng, dn, false, false, d ++ ⟨#[u8b ((bat s i).toNat : Int)]⟩, b, x⟩), σ.length + 2, ⟨by rw [← hq1]; exact (nl8 (by omega) (by omega) (by omega) (by omega)).symm, by simp only; omega, by simp only; omega, by simp only [ByteArray.size_append]; omega, by simp only; omega, by simp only; omega⟩, by simp only; omega, by simp, ⟨rfl, rfl, rfl, rfl, rfl, rfl, rfl, rfl, rfl, rfl, rfl, trivial⟩, closed_own 2 hcl (by simp [ownLt, AO.cells, AV.ltL, AV.lt]), by simp [ltE, AV.lt], take_own 2⟩
          · (try rw [h5]); (try simp only [decide_eq_true_eq, decide_eq_false_iff_not, Bool.not_eq_true', Bool.not_eq_false', Int.not_lt, Int.not_le, Bool.not_true, Bool.not_false, Int.toNat_natCast, tn1, tn2, tm1, tnn, bne_iff_ne, beq_iff_eq, beq_eq_false_iff_ne, ne_eq, Decidable.not_not] at h5)
            refine AWp_skip ?_
            refine AWp_seq ?_
            -- region 18 ref.go:83
            refine AWp_regL ?_
            refine st rfl rfl rfl (op_moveO rfl rfl) ?_
            refine st rfl rfl rfl (op_geq rfl rfl rfl) ?_
            refine st rfl rfl rfl (op_moveO rfl rfl) ?_
            refine AOps_split 46 rfl (fun h8 => ?_) (fun h8 => ?_)
            · rw [h8]; (try simp only [decide_eq_true_eq, decide_eq_false_iff_not, Bool.not_eq_true', Bool.not_eq_false', Int.not_lt, Int.not_le, Bool.not_true, Bool.not_false, Int.toNat_natCast, tn1, tn2, tm1, tnn, bne_iff_ne, beq_iff_eq, beq_eq_false_iff_ne, ne_eq, Decidable.not_not] at h8)
              refine stG rfl rfl rfl rfl rfl rfl (op_moveO rfl rfl) ?_
              refine stG rfl rfl rfl rfl rfl rfl (op_leq rfl rfl rfl) ?_
              refine st rfl rfl rfl (op_pickTO rfl rfl rfl) ?_
              refine AOps_nil ?_
              refine AWp_cond rfl (fun h9 => ?_) (fun h9 => ?_)
              · (try rw [h9]); (try simp only [decide_eq_true_eq, decide_eq_false_iff_not, Bool.not_eq_true', Bool.not_eq_false', Int.not_lt, Int.not_le, Bool.not_true, Bool.not_false, Int.toNat_natCast, tn1, tn2, tm1, tnn, bne_iff_ne, beq_iff_eq, beq_eq_false_iff_ne, ne_eq, Decidable.not_not] at h9)
                -- region 19 ref.go:84
                refine AWp_regL ?_
                refine st rfl rfl rfl (op_moveO rfl rfl) ?_
                refine st rfl rfl rfl (op_mul64 rfl rfl rfl (by omega) (by omega)) ?_
                refine st rfl rfl rfl (op_moveO rfl rfl) ?_
                refine st rfl rfl rfl (op_convIn rfl (by rw [Tryd.underlying5]; rfl) Tryd.underlying3 rfl (by first | rfl | exact wrap64_in (by omega) (by omega) | exact wrapu8_in (by omega) (by omega) | (simp only [IntKind.wrap]; omega))) ?_
                refine st rfl rfl rfl (op_add64 rfl rfl rfl (by omega) (by omega)) ?_
                refine st rfl rfl rfl (op_sub64 rfl rfl rfl (by omega) (by omega)) ?_
                refine st rfl rfl rfl (op_min2 rfl rfl rfl) ?_
                refine st rfl rfl rfl (op_assignO rfl rfl) ?_
                refine AOps_nil ?_
                -- region 13 ref.go:77
                refine AWp_regL ?_
                refine st rfl rfl rfl (op_moveO rfl rfl) ?_
                refine st rfl rfl rfl (op_add64 rfl rfl rfl (by omega) (by omega)) ?_
                refine st rfl rfl rfl (op_assignO rfl rfl) ?_
                refine AOps_nil ?_
                first | (exfalso; omega; done) | exact ⟨(i + 1, ⟨ng, true, pt, true, d, b, x⟩), σ.length + 2, ⟨by rw [← hq1]; exact (nl1 (by omega) (by omega)).symm, by simp only; omega, by simp only; omega, by simp only [ByteArray.size_append]; omega, by simp only; omega, by simp only; omega⟩, by simp only; omega, by simp, ⟨rfl, rfl, rfl, rfl, rfl, rfl, rfl, rfl, rfl, rfl, rfl, trivial⟩, closed_own 2 hcl (by simp [ownLt, AO.cells, AV.ltL, AV.lt]), by simp [ltE, AV.lt], take_own 2⟩ | exact ⟨(i + 1, ⟨ng, dn, pt, true, d, b, min (10 * x + (bat s i).toNat - 48) 1000000⟩), σ.length + 2, ⟨by rw [← hq1]; exact (nl2 (by omega) (by omega)).symm, by simp only; omega, by simp only; omega, by simp only [ByteArray.size_append]; omega, by simp only; omega, by simp only; omega⟩, by simp only; omega, by simp, ⟨rfl, rfl, rfl, rfl, rfl, rfl, rfl, rfl, rfl, rfl, rfl, trivial⟩, closed_own 2 hcl (by simp [ownLt, AO.cells, AV.ltL, AV.lt]), by simp [ltE, AV.lt], take_own 2⟩ | exact ⟨(i + 1, ⟨ng, dn, pt, true, d, b, x⟩), σ.length + 2, ⟨by rw [← hq1]; exact (nl3 (by omega) (by omega) (by omega)).symm, by simp only; omega, by simp only; omega, by simp only [ByteArray.size_append]; omega, by simp only; omega, by simp only; omega⟩, by simp only; omega, by simp, ⟨rfl, rfl, rfl, rfl, rfl, rfl, rfl, rfl, rfl, rfl, rfl, trivial⟩, closed_own 2 hcl (by simp [ownLt, AO.cells, AV.ltL, AV.lt]), by simp [ltE, AV.lt], take_own 2⟩ | exact ⟨(i + 1, ⟨true, dn, pt, false, d, b, x⟩), σ.length + 2, ⟨by rw [← hq1]; exact (nl4 (by omega) (by omega)).symm, by simp only; omega, by simp only; omega, by simp only [ByteArray.size_append]; omega, by simp only; omega, by simp only; omega⟩, by simp only; omega, by simp, ⟨rfl, rfl, rfl, rfl, rfl, rfl, rfl, rfl, rfl, rfl, rfl, trivial⟩, closed_own 2 hcl (by simp [ownLt, AO.cells, AV.ltL, AV.lt]), by simp [ltE, AV.lt], take_own 2⟩ | exact ⟨(i + 1, ⟨ng, dn, true, false, d, b, x⟩), σ.length + 2, ⟨by rw [← hq1]; exact (nl5 (by omega) (by omega)).symm, by simp only; omega, by simp only; omega, by simp only [ByteArray.size_append]; omega, by simp only; omega, by simp only; omega⟩, by simp only; omega, by simp, ⟨rfl, rfl, rfl, rfl, rfl, rfl, rfl, rfl, rfl, rfl, rfl, trivial⟩, closed_own 2 hcl (by simp [ownLt, AO.cells, AV.ltL, AV.lt]), by simp [ltE, AV.lt], take_own 2⟩ | exact ⟨(i + 1, ⟨ng, dn, pt, true, d, b, x⟩), σ.length + 2, ⟨by rw [← hq1]; exact (nl6 (by omega) (by omega)).symm, by simp only; omega, by simp only; omega, by simp only [ByteArray.size_append]; omega, by simp only; omega, by simp only; omega⟩, by simp only; omega, by simp, ⟨rfl, rfl, rfl, rfl, rfl, rfl, rfl, rfl, rfl, rfl, rfl, trivial⟩, closed_own 2 hcl (by simp [ownLt, AO.cells, AV.ltL, AV.lt]), by simp [ltE, AV.lt], take_own 2⟩ | exact ⟨(i + 1, ⟨ng, dn, true, false, d ++ ⟨#[u8b ((bat s i).toNat : Int)]⟩, b + 1, x⟩), σ.length + 2, ⟨by rw [← hq1]; exact (nl7 (by omega) (by omega) (by omega) (by omega)).symm, by simp only; omega, by simp only; omega, by simp only [ByteArray.size_append]; omega, by simp only; omega, by simp only; omega⟩, by simp only; omega, by simp, ⟨rfl, rfl, rfl, rfl, rfl, rfl, rfl, rfl, rfl, rfl, rfl, trivial⟩, closed_own 2 hcl (by simp [ownLt, AO.cells, AV.ltL, AV.lt]), by simp [ltE, AV.lt], take_own 2⟩ | exact ⟨(i + 1, ⟨ng, dn, false, false, d ++ ⟨#[u8b ((bat s i).toNat : Int)]⟩, b, x⟩), σ.length + 2, ⟨by rw [← hq1]; exact (nl8 (by omega) (by omega) (by omega) (by omega)).symm, by simp only; omega, by simp only; omega, by simp only [ByteArray.size_append]; omega, by simp only; omega, by simp only; omega⟩, by simp only; omega, by simp, ⟨rfl, rfl, rfl, rfl, rfl, rfl, rfl, rfl, rfl, rfl, rfl, trivial⟩, closed_own 2 hcl (by simp [ownLt, AO.cells, AV.ltL, AV.lt]), by simp [ltE, AV.lt], take_own 2⟩
              · (try rw [h9]); (try simp only [decide_eq_true_eq, decide_eq_false_iff_not, Bool.not_eq_true', Bool.not_eq_false', Int.not_lt, Int.not_le, Bool.not_true, Bool.not_false, Int.toNat_natCast, tn1, tn2, tm1, tnn, bne_iff_ne, beq_iff_eq, beq_eq_false_iff_ne, ne_eq, Decidable.not_not] at h9)
                refine AWp_skip ?_
                -- region 13 ref.go:77
                refine AWp_regL ?_
                refine st rfl rfl rfl (op_moveO rfl rfl) ?_
                refine st rfl rfl rfl (op_add64 rfl rfl rfl (by omega) (by omega)) ?_
                refine st rfl rfl rfl (op_assignO rfl rfl) ?_
                refine AOps_nil ?_
                first | (exfalso; omega; done) | exact ⟨(i + 1, ⟨ng, true, pt, true, d, b, x⟩), σ.length + 2, ⟨by rw [← hq1]; exact (nl1 (by omega) (by omega)).symm, by simp only; omega, by simp only; omega, by simp only [ByteArray.size_append]; omega, by simp only; omega, by simp only; omega⟩, by simp only; omega, by simp, ⟨rfl, rfl, rfl, rfl, rfl, rfl, rfl, rfl, rfl, rfl, rfl, trivial⟩, closed_own 2 hcl (by simp [ownLt, AO.cells, AV.ltL, AV.lt]), by simp [ltE, AV.lt], take_own 2⟩ | exact ⟨(i + 1, ⟨ng, dn, pt, true, d, b, min (10 * x + (bat s i).toNat - 48) 1000000⟩), σ.length + 2, ⟨by rw [← hq1]; exact (nl2 (by omega) (by omega)).symm, by simp only; omega, by simp only; omega, by simp only [ByteArray.size_append]; omega, by simp only; omega, by simp only; omega⟩, by simp only; omega, by simp, ⟨rfl, rfl, rfl, rfl, rfl, rfl, rfl, rfl, rfl, rfl, rfl, trivial⟩, closed_own 2 hcl (by simp [ownLt, AO.cells, AV.ltL, AV.lt]), by simp [ltE, AV.lt], take_own 2⟩ | exact ⟨(i + 1, ⟨ng, dn, pt, true, d, b, x⟩), σ.length + 2, ⟨by rw [← hq1]; exact (nl3 (by omega) (by omega) (by omega)).symm, by simp only; omega, by simp only; omega, by simp only [ByteArray.size_append]; omega, by simp only; omega, by simp only; omega⟩, by simp only; omega, by simp, ⟨rfl, rfl, rfl, rfl, rfl, rfl, rfl, rfl, rfl, rfl, rfl, trivial⟩, closed_own 2 hcl (by simp [ownLt, AO.cells, AV.ltL, AV.lt]), by simp [ltE, AV.lt], take_own 2⟩ | exact ⟨(i + 1, ⟨true, dn, pt, false, d, b, x⟩), σ.length + 2, ⟨by rw [← hq1]; exact (nl4 (by omega) (by omega)).symm, by simp only; omega, by simp only; omega, by simp only [ByteArray.size_append]; omega, by simp only; omega, by simp only; omega⟩, by simp only; omega, by simp, ⟨rfl, rfl, rfl, rfl, rfl, rfl, rfl, rfl, rfl, rfl, rfl, trivial⟩, closed_own 2 hcl (by simp [ownLt, AO.cells, AV.ltL, AV.lt]), by simp [ltE, AV.lt], take_own 2⟩ | exact ⟨(i + 1, ⟨ng, dn, true, false, d, b, x⟩), σ.length + 2, ⟨by rw [← hq1]; exact (nl5 (by omega) (by omega)).symm, by simp only; omega, by simp only; omega, by simp only [ByteArray.size_append]; omega, by simp only; omega, by simp only; omega⟩, by simp only; omega, by simp, ⟨rfl, rfl, rfl, rfl, rfl, rfl, rfl, rfl, rfl, rfl, rfl, trivial⟩, closed_own 2 hcl (by simp [ownLt, AO.cells, AV.ltL, AV.lt]), by simp [ltE, AV.lt], take_own 2⟩ | exact ⟨(i + 1, ⟨ng, dn, pt, true, d, b, x⟩), σ.length + 2, ⟨by rw [← hq1]; exact (nl6 (by omega) (by omega)).symm, by simp only; omega, by simp only; omega, by simp only [ByteArray.size_append]; omega, by simp only; omega, by simp only; omega⟩, by simp only; omega, by simp, ⟨rfl, rfl, rfl, rfl, rfl, rfl, rfl, rfl, rfl, rfl, rfl, trivial⟩, closed_own 2 hcl (by simp [ownLt, AO.cells, AV.ltL, AV.lt]), by simp [ltE, AV.lt], take_own 2⟩ | exact ⟨(i + 1, ⟨ng, dn, true, false, d ++ ⟨#[u8b ((bat s i).toNat : Int)]⟩, b + 1, x⟩), σ.length + 2, ⟨by rw [← hq1]; exact (nl7 (by omega) (by omega) (by omega) (by omega)).symm, by simp only; omega, by simp only; omega, by simp only [ByteArray.size_append]; omega, by simp only; omega, by simp only; omega⟩, by simp only; omega, by simp, ⟨rfl, rfl, rfl, rfl, rfl, rfl, rfl, rfl, rfl, rfl, rfl, trivial⟩, closed_own 2 hcl (by simp [ownLt, AO.cells, AV.ltL, AV.lt]), by simp [ltE, AV.lt], take_own 2⟩ | exact ⟨(i + 1, ⟨ng, dn, false, false, d ++ ⟨#[u8b ((bat s i).toNat : Int)]⟩, b, x⟩), σ.length + 2, ⟨by rw [← hq1]; exact (nl8 (by omega) (by omega) (by omega) (by omega)).symm, by simp only; omega, by simp only; omega, by simp only [ByteArray.size_append]; omega, by simp only; omega, by simp only; omega⟩, by simp only; omega, by simp, ⟨rfl, rfl, rfl, rfl, rfl, rfl, rfl, rfl, rfl, rfl, rfl, trivial⟩, closed_own 2 hcl (by simp [ownLt, AO.cells, AV.ltL, AV.lt]), by simp [ltE, AV.lt], take_own 2⟩
            · rw [h8]; (try simp only [decide_eq_true_eq, decide_eq_false_iff_not, Bool.not_eq_true', Bool.not_eq_false', Int.not_lt, Int.not_le, Bool.not_true, Bool.not_false, Int.toNat_natCast, tn1, tn2, tm1, tnn, bne_iff_ne, beq_iff_eq, beq_eq_false_iff_ne, ne_eq, Decidable.not_not] at h8)
              refine stS rfl rfl rfl (.inl rfl) rfl rfl ?_
              refine stS rfl rfl rfl (.inl rfl) rfl rfl ?_
              refine st rfl rfl rfl (op_pickFO rfl rfl rfl) ?_
              refine AOps_nil ?_
              refine AWp_condF rfl ?_
              refine AWp_skip ?_
              -- region 13 ref.go:77
              refine AWp_regL ?_
              refine st rfl rfl rfl (op_moveO rfl rfl) ?_
              refine st rfl rfl rfl (op_add64 rfl rfl rfl (by omega) (by omega)) ?_
              refine st rfl rfl rfl (op_assignO rfl rfl) ?_
              refine AOps_nil ?_
              first | (exfalso; omega; done) | exact ⟨(i + 1, ⟨ng, true, pt, true, d, b, x⟩), σ.length + 2, ⟨by rw [← hq1]; exact (nl1 (by omega) (by omega)).symm, by simp only; omega, by simp only; omega, by simp only [ByteArray.size_append]; omega, by simp only; omega, by simp only; omega⟩, by simp only; omega, by simp, ⟨rfl, rfl, rfl, rfl, rfl, rfl, rfl, rfl, rfl, rfl, rfl, trivial⟩, closed_own 2 hcl (by simp [ownLt, AO.cells, AV.ltL, AV.lt]), by simp [ltE, AV.lt], take_own 2⟩ | exact ⟨(i + 1, ⟨ng, dn, pt, true, d, b, min (10 * x + (bat s i).toNat - 48) 1000000⟩), σ.length + 2, ⟨by rw [← hq1]; exact (nl2 (by omega) (by omega)).symm, by simp only; omega, by simp only; omega, by simp only [ByteArray.size_append]; omega, by simp only; omega, by simp only; omega⟩, by simp only; omega, by simp, ⟨rfl, rfl, rfl, rfl, rfl, rfl, rfl, rfl, rfl, rfl, rfl, trivial⟩, closed_own 2 hcl (by simp [ownLt, AO.cells, AV.ltL, AV.lt]), by simp [ltE, AV.lt], take_own 2⟩ | exact ⟨(i + 1, ⟨ng, dn, pt, true, d, b, x⟩), σ.length + 2, ⟨by rw [← hq1]; exact (nl3 (by omega) (by omega) (by omega)).symm, by simp only; omega, by simp only; omega, by simp only [ByteArray.size_append]; omega, by simp only; omega, by simp only; omega⟩, by simp only; omega, by simp, ⟨rfl, rfl, rfl, rfl, rfl, rfl, rfl, rfl, rfl, rfl, rfl, trivial⟩, closed_own 2 hcl (by simp [ownLt, AO.cells, AV.ltL, AV.lt]), by simp [ltE, AV.lt], take_own 2⟩ | exact ⟨(i + 1, ⟨true, dn, pt, false, d, b, x⟩), σ.length + 2, ⟨by rw [← hq1]; exact (nl4 (by omega) (by omega)).symm, by simp only; omega, by simp only; omega, by simp only [ByteArray.size_append]; omega, by simp only; omega, by simp only; omega⟩, by simp only; omega, by simp, ⟨rfl, rfl, rfl, rfl, rfl, rfl, rfl, rfl, rfl, rfl, rfl, trivial⟩, closed_own 2 hcl (by simp [ownLt, AO.cells, AV.ltL, AV.lt]), by simp [ltE, AV.lt], take_own 2⟩ | exact ⟨(i + 1, ⟨ng, dn, true, false, d, b, x⟩), σ.length + 2, ⟨by rw [← hq1]; exact (nl5 (by omega) (by omega)).symm, by simp only; omega, by simp only; omega, by simp only [ByteArray.size_append]; omega, by simp only; omega, by simp only; omega⟩, by simp only; omega, by simp, ⟨rfl, rfl, rfl, rfl, rfl, rfl, rfl, rfl, rfl, rfl, rfl, trivial⟩, closed_own 2 hcl (by simp [ownLt, AO.cells, AV.ltL, AV.lt]), by simp [ltE, AV.lt], take_own 2⟩ | exact ⟨(i + 1, ⟨ng, dn, pt, true, d, b, x⟩), σ.length + 2, ⟨by rw [← hq1]; exact (nl6 (by omega) (by omega)).symm, by simp only; omega, by simp only; omega, by simp only [ByteArray.size_append]; omega, by simp only; omega, by simp only; omega⟩, by simp only; omega, by simp, ⟨rfl, rfl, rfl, rfl, rfl, rfl, rfl, rfl, rfl, rfl, rfl, trivial⟩, closed_own 2 hcl (by simp [ownLt, AO.cells, AV.ltL, AV.lt]), by simp [ltE, AV.lt], take_own 2⟩ | exact ⟨(i + 1, ⟨ng, dn, true, false, d ++ ⟨#[u8b ((bat s i).toNat : Int)]⟩, b + 1, x⟩), σ.length + 2, ⟨by rw [← hq1]; exact (nl7 (by omega) (by omega) (by omega) (by omega)).symm, by simp only; omega, by simp only; omega, by simp only [ByteArray.size_append]; omega, by simp only; omega, by simp only; omega⟩, by simp only; omega, by simp, ⟨rfl, rfl, rfl, rfl, rfl, rfl, rfl, rfl, rfl, rfl, rfl, trivial⟩, closed_own 2 hcl (by simp [ownLt, AO.cells, AV.ltL, AV.lt]), by simp [ltE, AV.lt], take_own 2⟩ | exact ⟨(i + 1, ⟨ng, dn, false, false, d ++ ⟨#[u8b ((bat s i).toNat : Int)]⟩, b, x⟩), σ.length + 2, ⟨by rw [← hq1]; exact (nl8 (by omega) (by omega) (by omega) (by omega)).symm, by simp only; omega, by simp only; omega, by simp only [ByteArray.size_append]; omega, by simp only; omega, by simp only; omega⟩, by simp only; omega, by simp, ⟨rfl, rfl, rfl, rfl, rfl, rfl, rfl, rfl, rfl, rfl, rfl, trivial⟩, closed_own 2 hcl (by simp [ownLt, AO.cells, AV.ltL, AV.lt]), by simp [ltE, AV.lt], take_own 2⟩
        · (try rw [h4]); (try simp only [decide_eq_true_eq, decide_eq_false_iff_not, Bool.not_eq_true', Bool.not_eq_false', Int.not_lt, Int.not_le, Bool.not_true, Bool.not_false, Int.toNat_natCast, tn1, tn2, tm1, tnn, bne_iff_ne, beq_iff_eq, beq_eq_false_iff_ne, ne_eq, Decidable.not_not] at h4)
          subst h4
          refine AWp_seq ?_
          -- region 20 ref.go:86
          refine AWp_regL ?_
          refine st rfl rfl rfl (op_moveO rfl rfl) ?_
          refine st rfl rfl rfl (op_eql rfl rfl rfl) ?_
          refine AOps_nil ?_
          refine AWp_cond rfl (fun h10 => ?_) (fun h10 => ?_)
          · (try rw [h10]); (try simp only [decide_eq_true_eq, decide_eq_false_iff_not, Bool.not_eq_true', Bool.not_eq_false', Int.not_lt, Int.not_le, Bool.not_true, Bool.not_false, Int.toNat_natCast, tn1, tn2, tm1, tnn, bne_iff_ne, beq_iff_eq, beq_eq_false_iff_ne, ne_eq, Decidable.not_not] at h10)
            -- region 21 ref.go:87
            refine AWp_regL ?_
            refine st rfl rfl rfl (op_fieldAddrO (fo := 0) rfl Tryd.underlying24 rfl rfl Tryd.sizeOf4 (by decide) rfl trivial) ?_
            refine stN rfl rfl (op_storeO (r := [.bool true, .str e0, .int .i64 0]) rfl Tryd.sizeOf4 rfl rfl rfl rfl rfl (by decide)) ?_
            refine AOps_nil ?_
            -- region 13 ref.go:77
            refine AWp_regL ?_
            refine st rfl rfl rfl (op_moveO rfl rfl) ?_
            refine st rfl rfl rfl (op_add64 rfl rfl rfl (by omega) (by omega)) ?_
            refine st rfl rfl rfl (op_assignO rfl rfl) ?_
            refine AOps_nil ?_
            first | (exfalso; omega; done) | exact ⟨(i + 1, ⟨ng, true, pt, true, d, b, x⟩), σ.length + 2, ⟨by rw [← hq1]; exact (nl1 (by omega) (by omega)).symm, by simp only; omega, by simp only; omega, by simp only [ByteArray.size_append]; omega, by simp only; omega, by simp only; omega⟩, by simp only; omega, by simp, ⟨rfl, rfl, rfl, rfl, rfl, rfl, rfl, rfl, rfl, rfl, rfl, trivial⟩, closed_own 2 hcl (by simp [ownLt, AO.cells, AV.ltL, AV.lt]), by simp [ltE, AV.lt], take_own 2⟩ | exact ⟨(i + 1, ⟨ng, dn, pt, true, d, b, min (10 * x + (bat s i).toNat - 48) 1000000⟩), σ.length + 2, ⟨by rw [← hq1]; exact (nl2 (by omega) (by omega)).symm, by simp only; omega, by simp only; omega, by simp only [ByteArray.size_append]; omega, by simp only; omega, by simp only; omega⟩, by simp only; omega, by simp, ⟨rfl, rfl, rfl, rfl, rfl, rfl, rfl, rfl, rfl, rfl, rfl, trivial⟩, closed_own 2 hcl (by simp [ownLt, AO.cells, AV.ltL, AV.lt]), by simp [ltE, AV.lt], take_own 2⟩ | exact ⟨(i + 1, ⟨ng, dn, pt, true, d, b, x⟩), σ.length + 2, ⟨by rw [← hq1]; exact (nl3 (by omega) (by omega) (by omega)).symm, by simp only; omega, by simp only; omega, by simp only [ByteArray.size_append]; omega, by simp only; omega, by simp only; omega⟩, by simp only; omega, by simp, ⟨rfl, rfl, rfl, rfl, rfl, rfl, rfl, rfl, rfl, rfl, rfl, trivial⟩, closed_own 2 hcl (by simp [ownLt, AO.cells, AV.ltL, AV.lt]), by simp [ltE, AV.lt], take_own 2⟩ | exact ⟨(i + 1, ⟨true, dn, pt, false, d, b, x⟩), σ.length + 2, ⟨by rw [← hq1]; exact (nl4 (by omega) (by omega)).symm, by simp only; omega, by simp only; omega, by simp only [ByteArray.size_append]; omega, by simp only; omega, by simp only; omega⟩, by simp only; omega, by simp, ⟨rfl, rfl, rfl, rfl, rfl, rfl, rfl, rfl, rfl, rfl, rfl, trivial⟩, closed_own 2 hcl (by simp [ownLt, AO.cells, AV.ltL, AV.lt]), by simp [ltE, AV.lt], take_own 2⟩ | exact ⟨(i + 1, ⟨ng, dn, true, false, d, b, x⟩), σ.length + 2, ⟨by rw [← hq1]; exact (nl5 (by omega) (by omega)).symm, by simp only; omega, by simp only; omega, by simp only [ByteArray.size_append]; omega, by simp only; omega, by simp only; omega⟩, by simp only; omega, by simp, ⟨rfl, rfl, rfl, rfl, rfl, rfl, rfl, rfl, rfl, rfl, rfl, trivial⟩, closed_own 2 hcl (by simp [ownLt, AO.cells, AV.ltL, AV.lt]), by simp [ltE, AV.lt], take_own 2⟩ | exact ⟨(i + 1, ⟨ng, dn, pt, true, d, b, x⟩), σ.length + 2, ⟨by rw [← hq1]; exact (nl6 (by omega) (by omega)).symm, by simp only; omega, by simp only; omega, by simp only [ByteArray.size_append]; omega, by simp only; omega, by simp only; omega⟩, by simp only; omega, by simp, ⟨rfl, rfl, rfl, rfl, rfl, rfl, rfl, rfl, rfl, rfl, rfl, trivial⟩, closed_own 2 hcl (by simp [ownLt, AO.cells, AV.ltL, AV.lt]), by simp [ltE, AV.lt], take_own 2⟩ | exact ⟨(i + 1, ⟨ng, dn, true, false, d ++ ⟨#[u8b ((bat s i).toNat : Int)]⟩, b + 1, x⟩), σ.length + 2, ⟨by rw [← hq1]; exact (nl7 (by omega) (by omega) (by omega) (by omega)).symm, by simp only; omega, by simp only; omega, by simp only [ByteArray.size_append]; omega, by simp only; omega, by simp only; omega⟩, by simp only; omega, by simp, ⟨rfl, rfl, rfl, rfl, rfl, rfl, rfl, rfl, rfl, rfl, rfl, trivial⟩, closed_own 2 hcl (by simp [ownLt, AO.cells, AV.ltL, AV.lt]), by simp [ltE, AV.lt], take_own 2⟩ | exact ⟨(i + 1, ⟨ng, dn, false, false, d ++ ⟨#[u8b ((bat s i).toNat : Int)]⟩, b, x⟩), σ.length + 2, ⟨by rw [← hq1]; exact (nl8 (by omega) (by omega) (by omega) (by omega)).symm, by simp only; omega, by simp only; omega, by simp only [ByteArray.size_append]; omega, by simp only; omega, by simp only; omega⟩, by simp only; omega, by simp, ⟨rfl, rfl, rfl, rfl, rfl, rfl, rfl, rfl, rfl, rfl, rfl, trivial⟩, closed_own 2 hcl (by simp [ownLt, AO.cells, AV.ltL, AV.lt]), by simp [ltE, AV.lt], take_own 2⟩
          · (try rw [h10]); (try simp only [decide_eq_true_eq, decide_eq_false_iff_not, Bool.not_eq_true', Bool.not_eq_false', Int.not_lt, Int.not_le, Bool.not_true, Bool.not_false, Int.toNat_natCast, tn1, tn2, tm1, tnn, bne_iff_ne, beq_iff_eq, beq_eq_false_iff_ne, ne_eq, Decidable.not_not] at h10)
            refine AWp_seq ?_
            -- region 22 ref.go:88
            refine AWp_regL ?_
            refine st rfl rfl rfl (op_moveO rfl rfl) ?_
            refine st rfl rfl rfl (op_eql rfl rfl rfl) ?_
            refine AOps_nil ?_
            refine AWp_cond rfl (fun h11 => ?_) (fun h11 => ?_)
            · (try rw [h11]); (try simp only [decide_eq_true_eq, decide_eq_false_iff_not, Bool.not_eq_true', Bool.not_eq_false', Int.not_lt, Int.not_le, Bool.not_true, Bool.not_false, Int.toNat_natCast, tn1, tn2, tm1, tnn, bne_iff_ne, beq_iff_eq, beq_eq_false_iff_ne, ne_eq, Decidable.not_not] at h11)
              -- region 23 ref.go:89
              refine AWp_regL ?_
              refine st rfl rfl rfl (op_assignO rfl rfl) ?_
              refine AOps_nil ?_
              -- region 13 ref.go:77
              refine AWp_regL ?_
              refine st rfl rfl rfl (op_moveO rfl rfl) ?_
              refine st rfl rfl rfl (op_add64 rfl rfl rfl (by omega) (by omega)) ?_
              refine st rfl rfl rfl (op_assignO rfl rfl) ?_
              refine AOps_nil ?_
              first | (exfalso; omega; done) | exact ⟨(i + 1, ⟨ng, true, pt, true, d, b, x⟩), σ.length + 2, ⟨by rw [← hq1]; exact (nl1 (by omega) (by omega)).symm, by simp only; omega, by simp only; omega, by simp only [ByteArray.size_append]; omega, by simp only; omega, by simp only; omega⟩, by simp only; omega, by simp, ⟨rfl, rfl, rfl, rfl, rfl, rfl, rfl, rfl, rfl, rfl, rfl, trivial⟩, closed_own 2 hcl (by simp [ownLt, AO.cells, AV.ltL, AV.lt]), by simp [ltE, AV.lt], take_own 2⟩ | exact ⟨(i + 1, ⟨ng, dn, pt, true, d, b, min (10 * x + (bat s i).toNat - 48) 1000000⟩), σ.length + 2, ⟨by rw [← hq1]; exact (nl2 (by omega) (by omega)).symm, by simp only; omega, by simp only; omega, by simp only [ByteArray.size_append]; omega, by simp only; omega, by simp only; omega⟩, by simp only; omega, by simp, ⟨rfl, rfl, rfl, rfl, rfl, rfl, rfl, rfl, rfl, rfl, rfl, trivial⟩, closed_own 2 hcl (by simp [ownLt, AO.cells, AV.ltL, AV.lt]), by simp [ltE, AV.lt], take_own 2⟩ | exact ⟨(i + 1, ⟨ng, dn, pt, true, d, b, x⟩), σ.length + 2, ⟨by rw [← hq1]; exact (nl3 (by omega) (by omega) (by omega)).symm, by simp only; omega, by simp only; omega, by simp only [ByteArray.size_append]; omega, by simp only; omega, by simp only; omega⟩, by simp only; omega, by simp, ⟨rfl, rfl, rfl, rfl, rfl, rfl, rfl, rfl, rfl, rfl, rfl, trivial⟩, closed_own 2 hcl (by simp [ownLt, AO.cells, AV.ltL, AV.lt]), by simp [ltE, AV.lt], take_own 2⟩ | exact ⟨(i + 1, ⟨true, dn, pt, false, d, b, x⟩), σ.length + 2, ⟨by rw [← hq1]; exact (nl4 (by omega) (by omega)).symm, by simp only; omega, by simp only; omega, by simp only [ByteArray.size_append]; omega, by simp only; omega, by simp only; omega⟩, by simp only; omega, by simp, ⟨rfl, rfl, rfl, rfl, rfl, rfl, rfl, rfl, rfl, rfl, rfl, trivial⟩, closed_own 2 hcl (by simp [ownLt, AO.cells, AV.ltL, AV.lt]), by simp [ltE, AV.lt], take_own 2⟩ | exact ⟨(i + 1, ⟨ng, dn, true, false, d, b, x⟩), σ.length + 2, ⟨by rw [← hq1]; exact (nl5 (by omega) (by omega)).symm, by simp only; omega, by simp only; omega, by simp only [ByteArray.size_append]; omega, by simp only; omega, by simp only; omega⟩, by simp only; omega, by simp, ⟨rfl, rfl, rfl, rfl, rfl, rfl, rfl, rfl, rfl, rfl, rfl, trivial⟩, closed_own 2 hcl (by simp [ownLt, AO.cells, AV.ltL, AV.lt]), by simp [ltE, AV.lt], take_own 2⟩ | exact ⟨(i + 1, ⟨ng, dn, pt, true, d, b, x⟩), σ.length + 2, ⟨by rw [← hq1]; exact (nl6 (by omega) (by omega)).symm, by simp only; omega, by simp only; omega, by simp only [ByteArray.size_append]; omega, by simp only; omega, by simp only; omega⟩, by simp only; omega, by simp, ⟨rfl, rfl, rfl, rfl, rfl, rfl, rfl, rfl, rfl, rfl, rfl, trivial⟩, closed_own 2 hcl (by simp [ownLt, AO.cells, AV.ltL, AV.lt]), by simp [ltE, AV.lt], take_own 2⟩ | exact ⟨(i + 1, ⟨ng, dn, true, false, d ++ ⟨#[u8b ((bat s i).toNat : Int)]⟩, b + 1, x⟩), σ.length + 2, ⟨by rw [← hq1]; exact (nl7 (by omega) (by omega) (by omega) (by omega)).symm, by simp only; omega, by simp only; omega, by simp only [ByteArray.size_append]; omega, by simp only; omega, by simp only; omega⟩, by simp only; omega, by simp, ⟨rfl, rfl, rfl, rfl, rfl, rfl, rfl, rfl, rfl, rfl, rfl, trivial⟩, closed_own 2 hcl (by simp [ownLt, AO.cells, AV.ltL, AV.lt]), by simp [ltE, AV.lt], take_own 2⟩ | exact ⟨(i + 1, ⟨ng, dn, false, false, d ++ ⟨#[u8b ((bat s i).toNat : Int)]⟩, b, x⟩), σ.length + 2, ⟨by rw [← hq1]; exact (nl8 (by omega) (by omega) (by omega) (by omega)).symm, by simp only; omega, by simp only; omega, by simp only [ByteArray.size_append]; omega, by simp only; omega, by simp only; omega⟩, by simp only; omega, by simp, ⟨rfl, rfl, rfl, rfl, rfl, rfl, rfl, rfl, rfl, rfl, rfl, trivial⟩, closed_own 2 hcl (by simp [ownLt, AO.cells, AV.ltL, AV.lt]), by simp [ltE, AV.lt], take_own 2⟩
            · (try rw [h11]); (try simp only [decide_eq_true_eq, decide_eq_false_iff_not, Bool.not_eq_true', Bool.not_eq_false', Int.not_lt, Int.not_le, Bool.not_true, Bool.not_false, Int.toNat_natCast, tn1, tn2, tm1, tnn, bne_iff_ne, beq_iff_eq, beq_eq_false_iff_ne, ne_eq, Decidable.not_not] at h11)
              refine AWp_seq ?_
              -- region 24 ref.go:90
              refine AWp_regL ?_
              refine st rfl rfl rfl (op_moveO rfl rfl) ?_
              refine st rfl rfl rfl (op_eql rfl rfl rfl) ?_
              refine st rfl rfl rfl (op_moveO rfl rfl) ?_
              refine AOps_split 64 rfl (fun h12 => ?_) (fun h12 => ?_)
              · rw [h12]; (try simp only [decide_eq_true_eq, decide_eq_false_iff_not, Bool.not_eq_true', Bool.not_eq_false', Int.not_lt, Int.not_le, Bool.not_true, Bool.not_false, Int.toNat_natCast, tn1, tn2, tm1, tnn, bne_iff_ne, beq_iff_eq, beq_eq_false_iff_ne, ne_eq, Decidable.not_not] at h12)
                refine stS rfl rfl rfl (.inl rfl) rfl rfl ?_
                refine stS rfl rfl rfl (.inl rfl) rfl rfl ?_
                refine st rfl rfl rfl (op_pickTO rfl rfl rfl) ?_
                refine AOps_nil ?_
                refine AWp_condT rfl ?_
                -- region 25 ref.go:91
                refine AWp_regL ?_
                refine st rfl rfl rfl (op_assignO rfl rfl) ?_
                refine AOps_nil ?_
                -- region 13 ref.go:77
                refine AWp_regL ?_
                refine st rfl rfl rfl (op_moveO rfl rfl) ?_
                refine st rfl rfl rfl (op_add64 rfl rfl rfl (by omega) (by omega)) ?_
                refine st rfl rfl rfl (op_assignO rfl rfl) ?_
                refine AOps_nil ?_
                first | (exfalso; omega; done) | exact ⟨(i + 1, ⟨ng, true, pt, true, d, b, x⟩), σ.length + 2, ⟨by rw [← hq1]; exact (nl1 (by omega) (by omega)).symm, by simp only; omega, by simp only; omega, by simp only [ByteArray.size_append]; omega, by simp only; omega, by simp only; omega⟩, by simp only; omega, by simp, ⟨rfl, rfl, rfl, rfl, rfl, rfl, rfl, rfl, rfl, rfl, rfl, trivial⟩, closed_own 2 hcl (by simp [ownLt, AO.cells, AV.ltL, AV.lt]), by simp [ltE, AV.lt], take_own 2⟩ | exact ⟨(i + 1, ⟨ng, dn, pt, true, d, b, min (10 * x + (bat s i).toNat - 48) 1000000⟩), σ.length + 2, ⟨by rw [← hq1]; exact (nl2 (by omega) (by omega)).symm, by simp only; omega, by simp only; omega, by simp only [ByteArray.size_append]; omega, by simp only; omega, by simp only; omega⟩, by simp only; omega, by simp, ⟨rfl, rfl, rfl, rfl, rfl, rfl, rfl, rfl, rfl, rfl, rfl, trivial⟩, closed_own 2 hcl (by simp [ownLt, AO.cells, AV.ltL, AV.lt]), by simp [ltE, AV.lt], take_own 2⟩ | exact ⟨(i + 1, ⟨ng, dn, pt, true, d, b, x⟩), σ.length + 2, ⟨by rw [← hq1]; exact (nl3 (by omega) (by omega) (by omega)).symm, by simp only; omega, by simp only; omega, by simp only [ByteArray.size_append]; omega, by simp only; omega, by simp only; omega⟩, by simp only; omega, by simp, ⟨rfl, rfl, rfl, rfl, rfl, rfl, rfl, rfl, rfl, rfl, rfl, trivial⟩, closed_own 2 hcl (by simp [ownLt, AO.cells, AV.ltL, AV.lt]), by simp [ltE, AV.lt], take_own 2⟩ | exact ⟨(i + 1, ⟨true, dn, pt, false, d, b, x⟩), σ.length + 2, ⟨by rw [← hq1]; exact (nl4 (by omega) (by omega)).symm, by simp only; omega, by simp only; omega, by simp only [ByteArray.size_append]; omega, by simp only; omega, by simp only; omega⟩, by simp only; omega, by simp, ⟨rfl, rfl, rfl, rfl, rfl, rfl, rfl, rfl, rfl, rfl, rfl, trivial⟩, closed_own 2 hcl (by simp [ownLt, AO.cells, AV.ltL, AV.lt]), by simp [ltE, AV.lt], take_own 2⟩ | exact ⟨(i + 1, ⟨ng, dn, true, false, d, b, x⟩), σ.length + 2, ⟨by rw [← hq1]; exact (nl5 (by omega) (by omega)).symm, by simp only; omega, by simp only; omega, by simp only [ByteArray.size_append]; omega, by simp only; omega, by simp only; omega⟩, by simp only; omega, by simp, ⟨rfl, rfl, rfl, rfl, rfl, rfl, rfl, rfl, rfl, rfl, rfl, trivial⟩, closed_own 2 hcl (by simp [ownLt, AO.cells, AV.ltL, AV.lt]), by simp [ltE, AV.lt], take_own 2⟩ | exact ⟨(i + 1, ⟨ng, dn, pt, true, d, b, x⟩), σ.length + 2, ⟨by rw [← hq1]; exact (nl6 (by omega) (by omega)).symm, by simp only; omega, by simp only; omega, by simp only [ByteArray.size_append]; omega, by simp only; omega, by simp only; omega⟩, by simp only; omega, by simp, ⟨rfl, rfl, rfl, rfl, rfl, rfl, rfl, rfl, rfl, rfl, rfl, trivial⟩, closed_own 2 hcl (by simp [ownLt, AO.cells, AV.ltL, AV.lt]), by simp [ltE, AV.lt], take_own 2⟩ | exact ⟨(i + 1, ⟨ng, dn, true, false, d ++ ⟨#[u8b ((bat s i).toNat : Int)]⟩, b + 1, x⟩), σ.length + 2, ⟨by rw [← hq1]; exact (nl7 (by omega) (by omega) (by omega) (by omega)).symm, by simp only; omega, by simp only; omega, by simp only [ByteArray.size_append]; omega, by simp only; omega, by simp only; omega⟩, by simp only; omega, by simp, ⟨rfl, rfl, rfl, rfl, rfl, rfl, rfl, rfl, rfl, rfl, rfl, trivial⟩, closed_own 2 hcl (by simp [ownLt, AO.cells, AV.ltL, AV.lt]), by simp [ltE, AV.lt], take_own 2⟩ | exact ⟨(i + 1, ⟨ng, dn, false, false, d ++ ⟨#[u8b ((bat s i).toNat : Int)]⟩, b, x⟩), σ.length + 2, ⟨by rw [← hq1]; exact (nl8 (by omega) (by omega) (by omega) (by omega)).symm, by simp only; omega, by simp only; omega, by simp only [ByteArray.size_append]; omega, by simp only; omega, by simp only; omega⟩, by simp only; omega, by simp, ⟨rfl, rfl, rfl, rfl, rfl, rfl, rfl, rfl, rfl, rfl, rfl, trivial⟩, closed_own 2 hcl (by simp [ownLt, AO.cells, AV.ltL, AV.lt]), by simp [ltE, AV.lt], take_own 2⟩
              · rw [h12]; (try simp only [decide_eq_true_eq, decide_eq_false_iff_not, Bool.not_eq_true', Bool.not_eq_false', Int.not_lt, Int.not_le, Bool.not_true, Bool.not_false, Int.toNat_natCast, tn1, tn2, tm1, tnn, bne_iff_ne, beq_iff_eq, beq_eq_false_iff_ne, ne_eq, Decidable.not_not] at h12)
                refine stG rfl rfl rfl rfl rfl rfl (op_moveO rfl rfl) ?_
                refine stG rfl rfl rfl rfl rfl rfl (op_eql rfl rfl rfl) ?_
                refine st rfl rfl rfl (op_pickFO rfl rfl rfl) ?_
                refine AOps_nil ?_
                refine AWp_cond rfl (fun h13 => ?_) (fun h13 => ?_)
                · (try rw [h13]); (try simp only [decide_eq_true_eq, decide_eq_false_iff_not, Bool.not_eq_true', Bool.not_eq_false', Int.not_lt, Int.not_le, Bool.not_true, Bool.not_false, Int.toNat_natCast, tn1, tn2, tm1, tnn, bne_iff_ne, beq_iff_eq, beq_eq_false_iff_ne, ne_eq, Decidable.not_not] at h13)
                  -- region 25 ref.go:91
                  refine AWp_regL ?_
                  refine st rfl rfl rfl (op_assignO rfl rfl) ?_
                  refine AOps_nil ?_
                  -- region 13 ref.go:77
                  refine AWp_regL ?_
                  refine st rfl rfl rfl (op_moveO rfl rfl) ?_
                  refine st rfl rfl rfl (op_add64 rfl rfl rfl (by omega) (by omega)) ?_
                  refine st rfl rfl rfl (op_assignO rfl rfl) ?_
                  refine AOps_nil ?_
                  first | (exfalso; omega; done) | exact ⟨(i + 1, ⟨ng, true, pt, true, d, b, x⟩), σ.length + 2, ⟨by rw [← hq1]; exact (nl1 (by omega) (by omega)).symm, by simp only; omega, by simp only; omega, by simp only [ByteArray.size_append]; omega, by simp only; omega, by simp only; omega⟩, by simp only; omega, by simp, ⟨rfl, rfl, rfl, rfl, rfl, rfl, rfl, rfl, rfl, rfl, rfl, trivial⟩, closed_own 2 hcl (by simp [ownLt, AO.cells, AV.ltL, AV.lt]), by simp [ltE, AV.lt], take_own 2⟩ | exact ⟨(i + 1, ⟨ng, dn, pt, true, d, b, min (10 * x + (bat s i).toNat - 48) 1000000⟩), σ.length + 2, ⟨by rw [← hq1]; exact (nl2 (by omega) (by omega)).symm, by simp only; omega, by simp only; omega, by simp only [ByteArray.size_append]; omega, by simp only; omega, by simp only; omega⟩, by simp only; omega, by simp, ⟨rfl, rfl, rfl, rfl, rfl, rfl, rfl, rfl, rfl, rfl, rfl, trivial⟩, closed_own 2 hcl (by simp [ownLt, AO.cells, AV.ltL, AV.lt]), by simp [ltE, AV.lt], take_own 2⟩ | exact ⟨(i + 1, ⟨ng, dn, pt, true, d, b, x⟩), σ.length + 2, ⟨by rw [← hq1]; exact (nl3 (by omega) (by omega) (by omega)).symm, by simp only; omega, by simp only; omega, by simp only [ByteArray.size_append]; omega, by simp only; omega, by simp only; omega⟩, by simp only; omega, by simp, ⟨rfl, rfl, rfl, rfl, rfl, rfl, rfl, rfl, rfl, rfl, rfl, trivial⟩, closed_own 2 hcl (by simp [ownLt, AO.cells, AV.ltL, AV.lt]), by simp [ltE, AV.lt], take_own 2⟩ | exact ⟨(i + 1, ⟨true, dn, pt, false, d, b, x⟩), σ.length + 2, ⟨by rw [← hq1]; exact (nl4 (by omega) (by omega)).symm, by simp only; omega, by simp only; omega, by simp only [ByteArray.size_append]; omega, by simp only; omega, by simp only; omega⟩, by simp only; omega, by simp, ⟨rfl, rfl, rfl, rfl, rfl, rfl, rfl, rfl, rfl, rfl, rfl, trivial⟩, closed_own 2 hcl (by simp [ownLt, AO.cells, AV.ltL, AV.lt]), by simp [ltE, AV.lt], take_own 2⟩ | exact ⟨(i + 1, ⟨ng, dn, true, false, d, b, x⟩), σ.length + 2, ⟨by rw [← hq1]; exact (nl5 (by omega) (by omega)).symm, by simp only; omega, by simp only; omega, by simp only [ByteArray.size_append]; omega, by simp only; omega, by simp only; omega⟩, by simp only; omega, by simp, ⟨rfl, rfl, rfl, rfl, rfl, rfl, rfl, rfl, rfl, rfl, rfl, trivial⟩, closed_own 2 hcl (by simp [ownLt, AO.cells, AV.ltL, AV.lt]), by simp [ltE, AV.lt], take_own 2⟩ | exact ⟨(i + 1, ⟨ng, dn, pt, true, d, b, x⟩), σ.length + 2, ⟨by rw [← hq1]; exact (nl6 (by omega) (by omega)).symm, by simp only; omega, by simp only; omega, by simp only [ByteArray.size_append]; omega, by simp only; omega, by simp only; omega⟩, by simp only; omega, by simp, ⟨rfl, rfl, rfl, rfl, rfl, rfl, rfl, rfl, rfl, rfl, rfl, trivial⟩, closed_own 2 hcl (by simp [ownLt, AO.cells, AV.ltL, AV.lt]), by simp [ltE, AV.lt], take_own 2⟩ | exact ⟨(i + 1, ⟨ng, dn, true, false, d ++ ⟨#[u8b ((bat s i).toNat : Int)]⟩, b + 1, x⟩), σ.length + 2, ⟨by rw [← hq1]; exact (nl7 (by omega) (by omega) (by omega) (by omega)).symm, by simp only; omega, by simp only; omega, by simp only [ByteArray.size_append]; omega, by simp only; omega, by simp only; omega⟩, by simp only; omega, by simp, ⟨rfl, rfl, rfl, rfl, rfl, rfl, rfl, rfl, rfl, rfl, rfl, trivial⟩, closed_own 2 hcl (by simp [ownLt, AO.cells, AV.ltL, AV.lt]), by simp [ltE, AV.lt], take_own 2⟩ | exact ⟨(i + 1, ⟨ng, dn, false, false, d ++ ⟨#[u8b ((bat s i).toNat : Int)]⟩, b, x⟩), σ.length + 2, ⟨by rw [← hq1]; exact (nl8 (by omega) (by omega) (by omega) (by omega)).symm, by simp only; omega, by simp only; omega, by simp only [ByteArray.size_append]; omega, by simp only; omega, by simp only; omega⟩, by simp only; omega, by simp, ⟨rfl, rfl, rfl, rfl, rfl, rfl, rfl, rfl, rfl, rfl, rfl, trivial⟩, closed_own 2 hcl (by simp [ownLt, AO.cells, AV.ltL, AV.lt]), by simp [ltE, AV.lt], take_own 2⟩
                · (try rw [h13]); (try simp only [decide_eq_true_eq, decide_eq_false_iff_not, Bool.not_eq_true', Bool.not_eq_false', Int.not_lt, Int.not_le, Bool.not_true, Bool.not_false, Int.toNat_natCast, tn1, tn2, tm1, tnn, bne_iff_ne, beq_iff_eq, beq_eq_false_iff_ne, ne_eq, Decidable.not_not] at h13)
                  refine AWp_seq ?_
                  -- region 26 ref.go:93
                  refine AWp_regL ?_
                  refine st rfl rfl rfl (op_moveO rfl rfl) ?_
                  refine st rfl rfl rfl (op_moveO rfl rfl) ?_
                  refine st rfl rfl rfl (op_buildSlice [[_]] rfl Tryd.underlying45 Tryd.sizeOf5 Tryd.zeroValue5 rfl (by decide) (by decide) rfl rfl rfl rfl rfl) ?_
                  refine st rfl rfl rfl (op_bytesStr (b := _) (m := 1) rfl Tryd.underlying45 Tryd.underlying5 Tryd.underlying9 (bs1 ⟨by omega, by omega⟩) rfl rfl) ?_
                  refine st rfl rfl rfl (op_cat rfl rfl rfl (by omega)) ?_
                  refine st rfl rfl rfl (op_assignO rfl rfl) ?_
                  refine AOps_nil ?_
                  refine AWp_seq ?_
                  -- region 27 ref.go:94
                  refine AWp_regL ?_
                  refine st rfl rfl rfl (op_moveO rfl rfl) ?_
                  refine AOps_nil ?_
                  refine AWp_cond rfl (fun h14 => ?_) (fun h14 => ?_)
                  · (try rw [h14]); (try simp only [decide_eq_true_eq, decide_eq_false_iff_not, Bool.not_eq_true', Bool.not_eq_false', Int.not_lt, Int.not_le, Bool.not_true, Bool.not_false, Int.toNat_natCast, tn1, tn2, tm1, tnn, bne_iff_ne, beq_iff_eq, beq_eq_false_iff_ne, ne_eq, Decidable.not_not] at h14)
                    subst h14
                    -- region 28 ref.go:95
                    refine AWp_regL ?_
                    refine st rfl rfl rfl (op_moveO rfl rfl) ?_
                    refine st rfl rfl rfl (op_add64 rfl rfl rfl (by omega) (by omega)) ?_
                    refine st rfl rfl rfl (op_assignO rfl rfl) ?_
                    refine AOps_nil ?_
                    -- region 13 ref.go:77
                    refine AWp_regL ?_
                    refine st rfl rfl rfl (op_moveO rfl rfl) ?_
                    refine st rfl rfl rfl (op_add64 rfl rfl rfl (by omega) (by omega)) ?_
                    refine st rfl rfl rfl (op_assignO rfl rfl) ?_
                    refine AOps_nil ?_
                    first | (exfalso; omega; done) | exact ⟨(i + 1, ⟨ng, true, pt, true, d, b, x⟩), σ.length + 2, ⟨by rw [← hq1]; exact (nl1 (by omega) (by omega)).symm, by simp only; omega, by simp only; omega, by simp only [ByteArray.size_append]; omega, by simp only; omega, by simp only; omega⟩, by simp only; omega, by simp, ⟨rfl, rfl, rfl, rfl, rfl, rfl, rfl, rfl, rfl, rfl, rfl, trivial⟩, closed_own 2 hcl (by simp [ownLt, AO.cells, AV.ltL, AV.lt]), by simp [ltE, AV.lt], take_own 2⟩ | exact ⟨(i + 1, ⟨ng, dn, pt, true, d, b, min (10 * x + (bat s i).toNat - 48) 1000000⟩), σ.length + 2, ⟨by rw [← hq1]; exact (nl2 (by omega) (by omega)).symm, by simp only; omega, by simp only; omega, by simp only [ByteArray.size_append]; omega, by simp only; omega, by simp only; omega⟩, by simp only; omega, by simp, ⟨rfl, rfl, rfl, rfl, rfl, rfl, rfl, rfl, rfl, rfl, rfl, trivial⟩, closed_own 2 hcl (by simp [ownLt, AO.cells, AV.ltL, AV.lt]), by simp [ltE, AV.lt], take_own 2⟩ | exact ⟨(i + 1, ⟨ng, dn, pt, true, d, b, x⟩), σ.length + 2, ⟨by rw [← hq1]; exact (nl3 (by omega) (by omega) (by omega)).symm, by simp only; omega, by simp only; omega, by simp only [ByteArray.size_append]; omega, by simp only; omega, by simp only; omega⟩, by simp only; omega, by simp, ⟨rfl, rfl, rfl, rfl, rfl, rfl, rfl, rfl, rfl, rfl, rfl, trivial⟩, closed_own 2 hcl (by simp [ownLt, AO.cells, AV.ltL, AV.lt]), by simp [ltE, AV.lt], take_own 2⟩ | exact ⟨(i + 1, ⟨true, dn, pt, false, d, b, x⟩), σ.length + 2, ⟨by rw [← hq1]; exact (nl4 (by omega) (by omega)).symm, by simp only; omega, by simp only; omega, by simp only [ByteArray.size_append]; omega, by simp only; omega, by simp only; omega⟩, by simp only; omega, by simp, ⟨rfl, rfl, rfl, rfl, rfl, rfl, rfl, rfl, rfl, rfl, rfl, trivial⟩, closed_own 2 hcl (by simp [ownLt, AO.cells, AV.ltL, AV.lt]), by simp [ltE, AV.lt], take_own 2⟩ | exact ⟨(i + 1, ⟨ng, dn, true, false, d, b, x⟩), σ.length + 2, ⟨by rw [← hq1]; exact (nl5 (by omega) (by omega)).symm, by simp only; omega, by simp only; omega, by simp only [ByteArray.size_append]; omega, by simp only; omega, by simp only; omega⟩, by simp only; omega, by simp, ⟨rfl, rfl, rfl, rfl, rfl, rfl, rfl, rfl, rfl, rfl, rfl, trivial⟩, closed_own 2 hcl (by simp [ownLt, AO.cells, AV.ltL, AV.lt]), by simp [ltE, AV.lt], take_own 2⟩ | exact ⟨(i + 1, ⟨ng, dn, pt, true, d, b, x⟩), σ.length + 2, ⟨by rw [← hq1]; exact (nl6 (by omega) (by omega)).symm, by simp only; omega, by simp only; omega, by simp only [ByteArray.size_append]; omega, by simp only; omega, by simp only; omega⟩, by simp only; omega, by simp, ⟨rfl, rfl, rfl, rfl, rfl, rfl, rfl, rfl, rfl, rfl, rfl, trivial⟩, closed_own 2 hcl (by simp [ownLt, AO.cells, AV.ltL, AV.lt]), by simp [ltE, AV.lt], take_own 2⟩ | exact ⟨(i + 1, ⟨ng, dn, true, false, d ++ ⟨#[u8b ((bat s i).toNat : Int)]⟩, b + 1, x⟩), σ.length + 2, ⟨by rw [← hq1]; exact (nl7 (by omega) (by omega) (by omega) (by omega)).symm, by simp only; omega, by simp only; omega, by simp only [ByteArray.size_append]; omega, by simp only; omega, by simp only; omega⟩, by simp only; omega, by simp, ⟨rfl, rfl, rfl, rfl, rfl, rfl, rfl, rfl, rfl, rfl, rfl, trivial⟩, closed_own 2 hcl (by simp [ownLt, AO.cells, AV.ltL, AV.lt]), by simp [ltE, AV.lt], take_own 2⟩ | exact ⟨(i + 1, ⟨ng, dn, false, false, d ++ ⟨#[u8b ((bat s i).toNat : Int)]⟩, b, x⟩), σ.length + 2, ⟨by rw [← hq1]; exact (nl8 (by omega) (by omega) (by omega) (by omega)).symm, by simp only; omega, by simp only; omega, by simp only [ByteArray.size_append]; omega, by simp only; omega, by simp only; omega⟩, by simp only; omega, by simp, ⟨rfl, rfl, rfl, rfl, rfl, rfl, rfl, rfl, rfl, rfl, rfl, trivial⟩, closed_own 2 hcl (by simp [ownLt, AO.cells, AV.ltL, AV.lt]), by simp [ltE, AV.lt], take_own 2⟩
                  · (try rw [h14]); (try simp only [decide_eq_true_eq, decide_eq_false_iff_not, Bool.not_eq_true', Bool.not_eq_false', Int.not_lt, Int.not_le, Bool.not_true, Bool.not_false, Int.toNat_natCast, tn1, tn2, tm1, tnn, bne_iff_ne, beq_iff_eq, beq_eq_false_iff_ne, ne_eq, Decidable.not_not] at h14)
                    subst h14
                    refine AWp_skip ?_
                    -- region 13 ref.go:77
                    refine AWp_regL ?_
                    refine st rfl rfl rfl (op_moveO rfl rfl) ?_
                    refine st rfl rfl rfl (op_add64 rfl rfl rfl (by omega) (by omega)) ?_
                    refine st rfl rfl rfl (op_assignO rfl rfl) ?_
                    refine AOps_nil ?_
                    first | (exfalso; omega; done) | exact ⟨(i + 1, ⟨ng, true, pt, true, d, b, x⟩), σ.length + 2, ⟨by rw [← hq1]; exact (nl1 (by omega) (by omega)).symm, by simp only; omega, by simp only; omega, by simp only [ByteArray.size_append]; omega, by simp only; omega, by simp only; omega⟩, by simp only; omega, by simp, ⟨rfl, rfl, rfl, rfl, rfl, rfl, rfl, rfl, rfl, rfl, rfl, trivial⟩, closed_own 2 hcl (by simp [ownLt, AO.cells, AV.ltL, AV.lt]), by simp [ltE, AV.lt], take_own 2⟩ | exact ⟨(i + 1, ⟨ng, dn, pt, true, d, b, min (10 * x + (bat s i).toNat - 48) 1000000⟩), σ.length + 2, ⟨by rw [← hq1]; exact (nl2 (by omega) (by omega)).symm, by simp only; omega, by simp only; omega, by simp only [ByteArray.size_append]; omega, by simp only; omega, by simp only; omega⟩, by simp only; omega, by simp, ⟨rfl, rfl, rfl, rfl, rfl, rfl, rfl, rfl, rfl, rfl, rfl, trivial⟩, closed_own 2 hcl (by simp [ownLt, AO.cells, AV.ltL, AV.lt]), by simp [ltE, AV.lt], take_own 2⟩ | exact ⟨(i + 1, ⟨ng, dn, pt, true, d, b, x⟩), σ.length + 2, ⟨by rw [← hq1]; exact (nl3 (by omega) (by omega) (by omega)).symm, by simp only; omega, by simp only; omega, by simp only [ByteArray.size_append]; omega, by simp only; omega, by simp only; omega⟩, by simp only; omega, by simp, ⟨rfl, rfl, rfl, rfl, rfl, rfl, rfl, rfl, rfl, rfl, rfl, trivial⟩, closed_own 2 hcl (by simp [ownLt, AO.cells, AV.ltL, AV.lt]), by simp [ltE, AV.lt], take_own 2⟩ | exact ⟨(i + 1, ⟨true, dn, pt, false, d, b, x⟩), σ.length + 2, ⟨by rw [← hq1]; exact (nl4 (by omega) (by omega)).symm, by simp only; omega, by simp only; omega, by simp only [ByteArray.size_append]; omega, by simp only; omega, by simp only; omega⟩, by simp only; omega, by simp, ⟨rfl, rfl, rfl, rfl, rfl, rfl, rfl, rfl, rfl, rfl, rfl, trivial⟩, closed_own 2 hcl (by simp [ownLt, AO.cells, AV.ltL, AV.lt]), by simp [ltE, AV.lt], take_own 2⟩ | exact ⟨(i + 1, ⟨ng, dn, true, false, d, b, x⟩), σ.length + 2, ⟨by rw [← hq1]; exact (nl5 (by omega) (by omega)).symm, by simp only; omega, by simp only; omega, by simp only [ByteArray.size_append]; omega, by simp only; omega, by simp only; omega⟩, by simp only; omega, by simp, ⟨rfl, rfl, rfl, rfl, rfl, rfl, rfl, rfl, rfl, rfl, rfl, trivial⟩, closed_own 2 hcl (by simp [ownLt, AO.cells, AV.ltL, AV.lt]), by simp [ltE, AV.lt], take_own 2⟩ | exact ⟨(i + 1, ⟨ng, dn, pt, true, d, b, x⟩), σ.length + 2, ⟨by rw [← hq1]; exact (nl6 (by omega) (by omega)).symm, by simp only; omega, by simp only; omega, by simp only [ByteArray.size_append]; omega, by simp only; omega, by simp only; omega⟩, by simp only; omega, by simp, ⟨rfl, rfl, rfl, rfl, rfl, rfl, rfl, rfl, rfl, rfl, rfl, trivial⟩, closed_own 2 hcl (by simp [ownLt, AO.cells, AV.ltL, AV.lt]), by simp [ltE, AV.lt], take_own 2⟩ | exact ⟨(i + 1, ⟨ng, dn, true, false, d ++ ⟨#[u8b ((bat s i).toNat : Int)]⟩, b + 1, x⟩), σ.length + 2, ⟨by rw [← hq1]; exact (nl7 (by omega) (by omega) (by omega) (by omega)).symm, by simp only; omega, by simp only; omega, by simp only [ByteArray.size_append]; omega, by simp only; omega, by simp only; omega⟩, by simp only; omega, by simp, ⟨rfl, rfl, rfl, rfl, rfl, rfl, rfl, rfl, rfl, rfl, rfl, trivial⟩, closed_own 2 hcl (by simp [ownLt, AO.cells, AV.ltL, AV.lt]), by simp [ltE, AV.lt], take_own 2⟩ | exact ⟨(i + 1, ⟨ng, dn, false, false, d ++ ⟨#[u8b ((bat s i).toNat : Int)]⟩, b, x⟩), σ.length + 2, ⟨by rw [← hq1]; exact (nl8 (by omega) (by omega) (by omega) (by omega)).symm, by simp only; omega, by simp only; omega, by simp only [ByteArray.size_append]; omega, by simp only; omega, by simp only; omega⟩, by simp only; omega, by simp, ⟨rfl, rfl, rfl, rfl, rfl, rfl, rfl, rfl, rfl, rfl, rfl, trivial⟩, closed_own 2 hcl (by simp [ownLt, AO.cells, AV.ltL, AV.lt]), by simp [ltE, AV.lt], take_own 2⟩
      · (try rw [h3]); (try simp only [decide_eq_true_eq, decide_eq_false_iff_not, Bool.not_eq_true', Bool.not_eq_false', Int.not_lt, Int.not_le, Bool.not_true, Bool.not_false, Int.toNat_natCast, tn1, tn2, tm1, tnn, bne_iff_ne, beq_iff_eq, beq_eq_false_iff_ne, ne_eq, Decidable.not_not] at h3)
        have ht : nloop s 0 nst0 = ⟨ng, dn, pt, pw, d, b, x⟩ := by rw [← hq1]; exact nl0 (by omega)
        refine AWp_exit ?_
        refine AWp_join (ι := Int) (fun xx => xx = nsgn ⟨ng, dn, pt, pw, d, b, x⟩ ∧ -1000000 ≤ xx ∧ xx ≤ 1000000) (fun xx => ⟨[], [(2, .ptr (σ.length + 0) 0), (6, .ptr (σ.length + 1) 0), (7, .str d), (8, .int .i64 b), (10, .int .i64 xx)]⟩) (fun xx => σ ++ [.box [.bool false, .str e0, .int .i64 0], .box [.bool ng, .str e0, .int .i64 0]]) ?_ (fun xx hj => ?_)
        · skip
          refine AWp_seq ?_
          -- region 29 ref.go:99
          refine AWp_regL ?_
          refine st rfl rfl rfl (op_moveO rfl rfl) ?_
          refine AOps_nil ?_
          refine AWp_cond rfl (fun h15 => ?_) (fun h15 => ?_)
          · (try rw [h15]); (try simp only [decide_eq_true_eq, decide_eq_false_iff_not, Bool.not_eq_true', Bool.not_eq_false', Int.not_lt, Int.not_le, Bool.not_true, Bool.not_false, Int.toNat_natCast, tn1, tn2, tm1, tnn, bne_iff_ne, beq_iff_eq, beq_eq_false_iff_ne, ne_eq, Decidable.not_not] at h15)
            subst h15
            -- region 30 ref.go:100
            refine AWp_regL ?_
            refine st rfl rfl rfl (op_moveO rfl rfl) ?_
            refine st rfl rfl rfl (op_neg64 rfl rfl (by omega) (by omega)) ?_
            refine st rfl rfl rfl (op_assignO rfl rfl) ?_
            refine AOps_nil ?_
            first | exact ⟨-x, ⟨by simp [nsgn], by omega, by omega⟩, ⟨rfl, rfl, rfl, rfl, rfl, rfl, trivial⟩, rfl⟩ | exact ⟨x, ⟨by simp [nsgn], by omega, by omega⟩, ⟨rfl, rfl, rfl, rfl, rfl, rfl, trivial⟩, rfl⟩
          · (try rw [h15]); (try simp only [decide_eq_true_eq, decide_eq_false_iff_not, Bool.not_eq_true', Bool.not_eq_false', Int.not_lt, Int.not_le, Bool.not_true, Bool.not_false, Int.toNat_natCast, tn1, tn2, tm1, tnn, bne_iff_ne, beq_iff_eq, beq_eq_false_iff_ne, ne_eq, Decidable.not_not] at h15)
            subst h15
            refine AWp_skip ?_
            first | exact ⟨-x, ⟨by simp [nsgn], by omega, by omega⟩, ⟨rfl, rfl, rfl, rfl, rfl, rfl, trivial⟩, rfl⟩ | exact ⟨x, ⟨by simp [nsgn], by omega, by omega⟩, ⟨rfl, rfl, rfl, rfl, rfl, rfl, trivial⟩, rfl⟩
        · skip
          obtain ⟨hx1, hx2, hx3⟩ := hj
          refine AWp_seq ?_
          -- region 31 ref.go:102
          refine AWp_regL ?_
          refine st rfl rfl rfl (op_moveO rfl rfl) ?_
          refine st rfl rfl rfl (op_moveO rfl rfl) ?_
          refine st rfl rfl rfl (op_sub64 rfl rfl rfl (by omega) (by omega)) ?_
          refine st rfl rfl rfl (op_assignO rfl rfl) ?_
          refine AOps_nil ?_
          refine AWp_seq ?_
          -- region 32 ref.go:103
          refine AWp_regL ?_
          refine st rfl rfl rfl (op_assignO rfl rfl) ?_
          refine AOps_nil ?_
          refine AWp_seq ?_
          refine AWp_block ?_
          -- loop 1 LIVE 2:alloc 3:assign 6:alloc 7:assign 10:assign 15:assign
          refine AWp_loop (ι := Nat) (fun f => fz d f = fz d 0 ∧ f ≤ d.size) (fun f => ⟨[], [(2, .ptr (σ.length + 0) 0), (6, .ptr (σ.length + 1) 0), (7, .str d), (10, .int .i64 (xx - b)), (15, .int .i64 (f : Int))]⟩) (fun f => σ ++ [_, _]) (fun f => d.size - f) (0) (⟨rfl, Nat.zero_le _⟩) ?_ rfl (fun f hf => ?_)
          · exact ⟨rfl, rfl, rfl, rfl, rfl, rfl, trivial⟩
          obtain ⟨hf1, hf2⟩ := hf
          refine AWp_seq ?_
          refine AWp_seq ?_
          -- region 33 ref.go:104
          refine AWp_regL ?_
          refine st rfl rfl rfl (op_moveO rfl rfl) ?_
          refine st rfl rfl rfl (op_moveO rfl rfl) ?_
          refine st rfl rfl rfl (op_lenStr rfl rfl Tryd.underlying9 rfl) ?_
          refine st rfl rfl rfl (op_lss rfl rfl rfl) ?_
          refine st rfl rfl rfl (op_moveO rfl rfl) ?_
          refine AOps_split 86 rfl (fun h16 => ?_) (fun h16 => ?_)
          · rw [h16]; (try simp only [decide_eq_true_eq, decide_eq_false_iff_not, Bool.not_eq_true', Bool.not_eq_false', Int.not_lt, Int.not_le, Bool.not_true, Bool.not_false, Int.toNat_natCast, tn1, tn2, tm1, tnn, bne_iff_ne, beq_iff_eq, beq_eq_false_iff_ne, ne_eq, Decidable.not_not] at h16)
            refine stG rfl rfl rfl rfl rfl rfl (op_moveO rfl rfl) ?_
            refine stG rfl rfl rfl rfl rfl rfl (op_moveO rfl rfl) ?_
            refine stG rfl rfl rfl rfl rfl rfl (op_index_strB rfl Tryd.underlying9 rfl rfl (by omega) (by omega)) ?_
            refine stG rfl rfl rfl rfl rfl rfl (op_eql rfl rfl rfl) ?_
            refine st rfl rfl rfl (op_pickTO rfl rfl rfl) ?_
            refine AOps_nil ?_
            refine AWp_cond rfl (fun h17 => ?_) (fun h17 => ?_)
            · (try rw [h17]); (try simp only [decide_eq_true_eq, decide_eq_false_iff_not, Bool.not_eq_true', Bool.not_eq_false', Int.not_lt, Int.not_le, Bool.not_true, Bool.not_false, Int.toNat_natCast, tn1, tn2, tm1, tnn, bne_iff_ne, beq_iff_eq, beq_eq_false_iff_ne, ne_eq, Decidable.not_not] at h17)
              refine AWp_skip ?_
              refine AWp_block ?_
              -- region 34 ref.go:105
              refine AWp_regL ?_
              refine st rfl rfl rfl (op_moveO rfl rfl) ?_
              refine st rfl rfl rfl (op_add64 rfl rfl rfl (by omega) (by omega)) ?_
              refine st rfl rfl rfl (op_assignO rfl rfl) ?_
              refine AOps_nil ?_
              exact ⟨f + 1, σ.length + 2, ⟨by rw [← hf1]; exact (fz_yes (by omega) (by omega)).symm, by omega⟩, by omega, by simp, ⟨rfl, rfl, rfl, rfl, rfl, rfl, trivial⟩, closed_own 2 hcl (by simp [ownLt, AO.cells, AV.ltL, AV.lt]), by simp [ltE, AV.lt], take_own 2⟩
            · (try rw [h17]); (try simp only [decide_eq_true_eq, decide_eq_false_iff_not, Bool.not_eq_true', Bool.not_eq_false', Int.not_lt, Int.not_le, Bool.not_true, Bool.not_false, Int.toNat_natCast, tn1, tn2, tm1, tnn, bne_iff_ne, beq_iff_eq, beq_eq_false_iff_ne, ne_eq, Decidable.not_not] at h17)
              refine AWp_exit ?_
              refine AWp_seq ?_
              -- region 35 ref.go:107
              refine AWp_regL ?_
              refine st rfl rfl rfl (op_moveO rfl rfl) ?_
              refine st rfl rfl rfl (op_lenStr rfl rfl Tryd.underlying9 rfl) ?_
              refine st rfl rfl rfl (op_assignO rfl rfl) ?_
              refine AOps_nil ?_
              refine AWp_seq ?_
              refine AWp_block ?_
              -- loop 2 LIVE 2:alloc 3:assign 6:alloc 7:assign 10:assign 15:assign 16:assign
              have hff : fz d 0 = f := by rw [← hf1]; exact fz_no (by omega)
              refine AWp_loop (ι := Nat) (fun l => lz d f l = lz d f d.size ∧ f ≤ l ∧ l ≤ d.size) (fun l => ⟨[], [(2, .ptr (σ.length + 0) 0), (6, .ptr (σ.length + 1) 0), (7, .str d), (10, .int .i64 (xx - b + ((d.size : Int) - l))), (15, .int .i64 (f : Int)), (16, .int .i64 (l : Int))]⟩) (fun l => σ ++ [_, _]) (fun l => l) (d.size) (⟨rfl, hf2, Nat.le_refl _⟩) ?_ rfl (fun l hl => ?_)
              · refine ⟨rfl, rfl, rfl, rfl, ?_, rfl, rfl, trivial⟩
                rw [Int.sub_self, Int.add_zero]; rfl
              obtain ⟨hl1, hl2, hl3⟩ := hl
              refine AWp_seq ?_
              refine AWp_seq ?_
              -- region 36 ref.go:108
              refine AWp_regL ?_
              refine st rfl rfl rfl (op_moveO rfl rfl) ?_
              refine st rfl rfl rfl (op_moveO rfl rfl) ?_
              refine st rfl rfl rfl (op_gtr rfl rfl rfl) ?_
              refine st rfl rfl rfl (op_moveO rfl rfl) ?_
              refine AOps_split 99 rfl (fun h18 => ?_) (fun h18 => ?_)
              · rw [h18]; (try simp only [decide_eq_true_eq, decide_eq_false_iff_not, Bool.not_eq_true', Bool.not_eq_false', Int.not_lt, Int.not_le, Bool.not_true, Bool.not_false, Int.toNat_natCast, tn1, tn2, tm1, tnn, bne_iff_ne, beq_iff_eq, beq_eq_false_iff_ne, ne_eq, Decidable.not_not] at h18)
                refine stG rfl rfl rfl rfl rfl rfl (op_moveO rfl rfl) ?_
                refine stG rfl rfl rfl rfl rfl rfl (op_moveO rfl rfl) ?_
                refine stG rfl rfl rfl rfl rfl rfl (op_sub64 rfl rfl rfl (by omega) (by omega)) ?_
                refine stG rfl rfl rfl rfl rfl rfl (op_index_strB rfl Tryd.underlying9 rfl rfl (by omega) (by omega)) ?_
                refine stG rfl rfl rfl rfl rfl rfl (op_eql rfl rfl rfl) ?_
                refine st rfl rfl rfl (op_pickTO rfl rfl rfl) ?_
                refine AOps_nil ?_
                refine AWp_cond rfl (fun h19 => ?_) (fun h19 => ?_)
                · (try rw [h19]); (try simp only [decide_eq_true_eq, decide_eq_false_iff_not, Bool.not_eq_true', Bool.not_eq_false', Int.not_lt, Int.not_le, Bool.not_true, Bool.not_false, Int.toNat_natCast, tn1, tn2, tm1, tnn, bne_iff_ne, beq_iff_eq, beq_eq_false_iff_ne, ne_eq, Decidable.not_not] at h19)
                  refine AWp_skip ?_
                  refine AWp_block ?_
                  refine AWp_seq ?_
                  -- region 37 ref.go:109
                  refine AWp_regL ?_
                  refine st rfl rfl rfl (op_moveO rfl rfl) ?_
                  refine st rfl rfl rfl (op_sub64 rfl rfl rfl (by omega) (by omega)) ?_
                  refine st rfl rfl rfl (op_assignO rfl rfl) ?_
                  refine AOps_nil ?_
                  -- region 38 ref.go:110
                  refine AWp_regL ?_
                  refine st rfl rfl rfl (op_moveO rfl rfl) ?_
                  refine st rfl rfl rfl (op_add64 rfl rfl rfl (by omega) (by omega)) ?_
                  refine st rfl rfl rfl (op_assignO rfl rfl) ?_
                  refine AOps_nil ?_
                  refine ⟨l - 1, σ.length + 2, ⟨by rw [← hl1]; exact (lz_yes (by omega) (by omega)).symm, by omega⟩, by omega, by simp, ⟨rfl, rfl, rfl, rfl, ?_, rfl, ?_, trivial⟩, closed_own 2 hcl (by simp [ownLt, AO.cells, AV.ltL, AV.lt]), by simp [ltE, AV.lt], take_own 2⟩
                  · rw [show xx - b + ((d.size : Int) - ((l - 1 : Nat) : Int)) = xx - b + ((d.size : Int) - (l : Int)) + 1 by omega]; rfl
                  · rw [show ((l - 1 : Nat) : Int) = (l : Int) - 1 by omega]; rfl
                · (try rw [h19]); (try simp only [decide_eq_true_eq, decide_eq_false_iff_not, Bool.not_eq_true', Bool.not_eq_false', Int.not_lt, Int.not_le, Bool.not_true, Bool.not_false, Int.toNat_natCast, tn1, tn2, tm1, tnn, bne_iff_ne, beq_iff_eq, beq_eq_false_iff_ne, ne_eq, Decidable.not_not] at h19)
                  refine AWp_exit ?_
                  refine AWp_seq ?_
                  refine AWp_seq ?_
                  -- region 39 ref.go:112
                  refine AWp_regL ?_
                  have hll : lz d f d.size = l := by rw [← hl1]; exact lz_no (by omega) hl2
                  have hxs : (d.extract f l).size ≤ d.size := by rw [ByteArray.size_extract]; omega
                  have hnf : nF ⟨ng, dn, pt, pw, d, b, x⟩ = f := hff
                  have hnl : nL ⟨ng, dn, pt, pw, d, b, x⟩ = l := by unfold nL; rw [hnf]; exact hll
                  have hof : nOf ⟨ng, dn, pt, pw, d, b, x⟩ = ⟨ng, d.extract f l, xx - b + ((d.size : Int) - l)⟩ := by unfold nOf; rw [hnf, hnl, ← hx1]
                  refine st rfl rfl rfl (op_moveO rfl rfl) ?_
                  refine st rfl rfl rfl (op_moveO rfl rfl) ?_
                  refine st rfl rfl rfl (op_eql rfl rfl rfl) ?_
                  refine AOps_nil ?_
                  refine AWp_cond rfl (fun h20 => ?_) (fun h20 => ?_)
                  · (try rw [h20]); (try simp only [decide_eq_true_eq, decide_eq_false_iff_not, Bool.not_eq_true', Bool.not_eq_false', Int.not_lt, Int.not_le, Bool.not_true, Bool.not_false, Int.toNat_natCast, tn1, tn2, tm1, tnn, bne_iff_ne, beq_iff_eq, beq_eq_false_iff_ne, ne_eq, Decidable.not_not] at h20)
                    refine AWp_seq ?_
                    -- region 40 ref.go:113
                    refine AWp_regL ?_
                    refine st rfl rfl rfl (op_buildP (cs := [_, _, _]) [(0, 1), (1, 1), (2, 1)] rfl Tryd.underlying24 Tryd.zeroValue24 ⟨rfl, Tryd.sizeOf4, ⟨rfl, Tryd.sizeOf9, ⟨rfl, Tryd.sizeOf3, trivial⟩⟩⟩ rfl rfl) ?_
                    refine stN rfl rfl ((by first | exact op_storeO (r := [_, _, _]) rfl Tryd.sizeOf24 rfl rfl rfl rfl rfl (by decide) | exact op_storeP (r := [_, _, _]) rfl Tryd.sizeOf24 rfl rfl rfl (by assumption) rfl (by decide))) ?_
                    refine st rfl rfl rfl (op_assignO rfl rfl) ?_
                    refine AOps_nil ?_
                    refine AWp_ret ?_
                    (try simp only [blockQ, thenQ])
                    first | (exfalso; omega; done) | (have hE : rNum s = ({}, 0) := by unfold rNum; rw [if_neg (by simp [h1]; omega), ht, if_pos (by rw [hnf, hnl]; omega)]); rw [hE]; exact RQ_ret (rkvs_cons (rkv_ck rfl rfl rfl) (rkvs_cons (rkv_t rfl) rfl)) hcl (by simp [rks, AV.lt, AV.ltL, ofConst1, ncells]) (Ret_of rfl) | (have hE : rNum s = ({}, 5) := by unfold rNum; rw [if_neg (by simp [h1]; omega), ht, if_neg (by rw [hnf, hnl]; omega), if_neg (by rw [hof]; exact (pb_niff _).1 (by assumption))]); rw [hE]; exact RQ_ret (rkvs_cons (rkv_ck rfl rfl rfl) (rkvs_cons (rkv_t rfl) rfl)) hcl (by simp [rks, AV.lt, AV.ltL, ofConst1, ncells]) (Ret_of rfl) | (have hE : rNum s = (⟨ng, d.extract f l, xx - b + ((d.size : Int) - l)⟩, 0) := by unfold rNum; rw [if_neg (by simp [h1]; omega), ht, if_neg (by rw [hnf, hnl]; omega), if_pos (by rw [hof]; exact (pb_iff _).1 (by assumption)), hof]); rw [hE]; exact RQ_ret (rkvs_cons (rkv_ck rfl rfl rfl) (rkvs_cons (rkv_t rfl) rfl)) hcl (by simp [rks, AV.lt, AV.ltL, ofConst1, ncells]) (Ret_of rfl)
                  · (try rw [h20]); (try simp only [decide_eq_true_eq, decide_eq_false_iff_not, Bool.not_eq_true', Bool.not_eq_false', Int.not_lt, Int.not_le, Bool.not_true, Bool.not_false, Int.toNat_natCast, tn1, tn2, tm1, tnn, bne_iff_ne, beq_iff_eq, beq_eq_false_iff_ne, ne_eq, Decidable.not_not] at h20)
                    refine AWp_skip ?_
                    refine AWp_seq ?_
                    -- region 41 ref.go:115
                    refine AWp_regL ?_
                    refine st rfl rfl rfl (op_moveO rfl rfl) ?_
                    refine st rfl rfl rfl (op_moveO rfl rfl) ?_
                    refine st rfl rfl rfl (op_moveO rfl rfl) ?_
                    refine st rfl rfl rfl (op_slice_str _ _ rfl Tryd.underlying9 rfl (by first | exact ⟨_, rfl⟩ | rfl) (by first | exact ⟨_, rfl⟩ | rfl) (by omega) (by omega) (by omega)) ?_
                    simp only [Int.toNat_natCast]
                    refine st rfl rfl rfl (op_fieldAddrO (fo := 1) rfl Tryd.underlying24 rfl rfl Tryd.sizeOf9 (by decide) rfl trivial) ?_
                    refine stN rfl rfl (op_storeO (r := [.bool ng, .str (d.extract f l), .int .i64 0]) rfl Tryd.sizeOf9 rfl rfl rfl rfl rfl (by decide)) ?_
                    refine AOps_nil ?_
                    refine AWp_seq ?_
                    -- region 42 ref.go:116
                    refine AWp_regL ?_
                    refine st rfl rfl rfl (op_moveO rfl rfl) ?_
                    refine st rfl rfl rfl (op_fieldAddrO (fo := 2) rfl Tryd.underlying24 rfl rfl Tryd.sizeOf3 (by decide) rfl trivial) ?_
                    refine stN rfl rfl (op_storeO (r := [.bool ng, .str (d.extract f l), .int .i64 (xx - b + ((d.size : Int) - l))]) rfl Tryd.sizeOf3 rfl rfl rfl rfl rfl (by decide)) ?_
                    refine AOps_nil ?_
                    refine AWp_seq ?_
                    -- region 43 ref.go:117
                    refine AWp_regL ?_
                    refine st rfl rfl rfl (op_loadK (cs := [_, _, _]) rfl Tryd.isAgg24 Tryd.sizeOf24 (by first | exact ldv_own rfl rfl | exact ldv_pp rfl | exact ldv_old (by assumption) rfl | exact ldv_ptr (by assumption) rfl)) ?_
                    refine st rfl rfl rfl (op_callF rfl rfl rfl Tryd.func23 rfl rfl (mayNum_c ⟨ng, d.extract f l, xx - b + ((d.size : Int) - l)⟩ _ (by simp only; omega))) ?_
                    refine st rfl rfl rfl (op_assignO rfl rfl) ?_
                    refine AOps_nil ?_
                    refine AWp_seq ?_
                    refine AWp_seq ?_
                    -- region 44 ref.go:118
                    refine AWp_regL ?_
                    refine st rfl rfl rfl (op_moveO rfl rfl) ?_
                    refine st rfl rfl rfl (op_not rfl rfl) ?_
                    refine AOps_nil ?_
                    refine AWp_cond rfl (fun h21 => ?_) (fun h21 => ?_)
                    · (try rw [h21]); (try simp only [decide_eq_true_eq, decide_eq_false_iff_not, Bool.not_eq_true', Bool.not_eq_false', Int.not_lt, Int.not_le, Bool.not_true, Bool.not_false, Int.toNat_natCast, tn1, tn2, tm1, tnn, bne_iff_ne, beq_iff_eq, beq_eq_false_iff_ne, ne_eq, Decidable.not_not] at h21)
                      refine AWp_seq ?_
                      -- region 45 ref.go:119
                      refine AWp_regL ?_
                      refine st rfl rfl rfl (op_buildP (cs := [_, _, _]) [(0, 1), (1, 1), (2, 1)] rfl Tryd.underlying24 Tryd.zeroValue24 ⟨rfl, Tryd.sizeOf4, ⟨rfl, Tryd.sizeOf9, ⟨rfl, Tryd.sizeOf3, trivial⟩⟩⟩ rfl rfl) ?_
                      refine stN rfl rfl ((by first | exact op_storeO (r := [_, _, _]) rfl Tryd.sizeOf24 rfl rfl rfl rfl rfl (by decide) | exact op_storeP (r := [_, _, _]) rfl Tryd.sizeOf24 rfl rfl rfl (by assumption) rfl (by decide))) ?_
                      refine st rfl rfl rfl (op_assignO rfl rfl) ?_
                      refine AOps_nil ?_
                      refine AWp_ret ?_
                      (try simp only [blockQ, thenQ])
                      first | (exfalso; omega; done) | (have hE : rNum s = ({}, 0) := by unfold rNum; rw [if_neg (by simp [h1]; omega), ht, if_pos (by rw [hnf, hnl]; omega)]); rw [hE]; exact RQ_ret (rkvs_cons (rkv_ck rfl rfl rfl) (rkvs_cons (rkv_t rfl) rfl)) hcl (by simp [rks, AV.lt, AV.ltL, ofConst1, ncells]) (Ret_of rfl) | (have hE : rNum s = ({}, 5) := by unfold rNum; rw [if_neg (by simp [h1]; omega), ht, if_neg (by rw [hnf, hnl]; omega), if_neg (by rw [hof]; exact (pb_niff _).1 (by assumption))]); rw [hE]; exact RQ_ret (rkvs_cons (rkv_ck rfl rfl rfl) (rkvs_cons (rkv_t rfl) rfl)) hcl (by simp [rks, AV.lt, AV.ltL, ofConst1, ncells]) (Ret_of rfl) | (have hE : rNum s = (⟨ng, d.extract f l, xx - b + ((d.size : Int) - l)⟩, 0) := by unfold rNum; rw [if_neg (by simp [h1]; omega), ht, if_neg (by rw [hnf, hnl]; omega), if_pos (by rw [hof]; exact (pb_iff _).1 (by assumption)), hof]); rw [hE]; exact RQ_ret (rkvs_cons (rkv_ck rfl rfl rfl) (rkvs_cons (rkv_t rfl) rfl)) hcl (by simp [rks, AV.lt, AV.ltL, ofConst1, ncells]) (Ret_of rfl)
                    · (try rw [h21]); (try simp only [decide_eq_true_eq, decide_eq_false_iff_not, Bool.not_eq_true', Bool.not_eq_false', Int.not_lt, Int.not_le, Bool.not_true, Bool.not_false, Int.toNat_natCast, tn1, tn2, tm1, tnn, bne_iff_ne, beq_iff_eq, beq_eq_false_iff_ne, ne_eq, Decidable.not_not] at h21)
                      refine AWp_skip ?_
                      refine AWp_seq ?_
                      -- region 46 ref.go:121
                      refine AWp_regL ?_
                      refine st rfl rfl rfl (op_loadK (cs := [_, _, _]) rfl Tryd.isAgg24 Tryd.sizeOf24 (by first | exact ldv_own rfl rfl | exact ldv_pp rfl | exact ldv_old (by assumption) rfl | exact ldv_ptr (by assumption) rfl)) ?_
                      refine stN rfl rfl ((by first | exact op_storeO (r := [_, _, _]) rfl Tryd.sizeOf24 rfl rfl rfl rfl rfl (by decide) | exact op_storeP (r := [_, _, _]) rfl Tryd.sizeOf24 rfl rfl rfl (by assumption) rfl (by decide))) ?_
                      refine st rfl rfl rfl (op_assignO rfl rfl) ?_
                      refine AOps_nil ?_
                      refine AWp_ret ?_
                      (try simp only [blockQ, thenQ])
                      first | (exfalso; omega; done) | (have hE : rNum s = ({}, 0) := by unfold rNum; rw [if_neg (by simp [h1]; omega), ht, if_pos (by rw [hnf, hnl]; omega)]); rw [hE]; exact RQ_ret (rkvs_cons (rkv_ck rfl rfl rfl) (rkvs_cons (rkv_t rfl) rfl)) hcl (by simp [rks, AV.lt, AV.ltL, ofConst1, ncells]) (Ret_of rfl) | (have hE : rNum s = ({}, 5) := by unfold rNum; rw [if_neg (by simp [h1]; omega), ht, if_neg (by rw [hnf, hnl]; omega), if_neg (by rw [hof]; exact (pb_niff _).1 (by assumption))]); rw [hE]; exact RQ_ret (rkvs_cons (rkv_ck rfl rfl rfl) (rkvs_cons (rkv_t rfl) rfl)) hcl (by simp [rks, AV.lt, AV.ltL, ofConst1, ncells]) (Ret_of rfl) | (have hE : rNum s = (⟨ng, d.extract f l, xx - b + ((d.size : Int) - l)⟩, 0) := by unfold rNum; rw [if_neg (by simp [h1]; omega), ht, if_neg (by rw [hnf, hnl]; omega), if_pos (by rw [hof]; exact (pb_iff _).1 (by assumption)), hof]); rw [hE]; exact RQ_ret (rkvs_cons (rkv_ck rfl rfl rfl) (rkvs_cons (rkv_t rfl) rfl)) hcl (by simp [rks, AV.lt, AV.ltL, ofConst1, ncells]) (Ret_of rfl)
              · rw [h18]; (try simp only [decide_eq_true_eq, decide_eq_false_iff_not, Bool.not_eq_true', Bool.not_eq_false', Int.not_lt, Int.not_le, Bool.not_true, Bool.not_false, Int.toNat_natCast, tn1, tn2, tm1, tnn, bne_iff_ne, beq_iff_eq, beq_eq_false_iff_ne, ne_eq, Decidable.not_not] at h18)
                refine stS rfl rfl rfl (.inl rfl) rfl rfl ?_
                refine stS rfl rfl rfl (.inl rfl) rfl rfl ?_
                refine stS rfl rfl rfl (.inl rfl) rfl rfl ?_
                refine stS rfl rfl rfl (.inl rfl) rfl rfl ?_
                refine stS rfl rfl rfl (.inl rfl) rfl rfl ?_
                refine st rfl rfl rfl (op_pickFO rfl rfl rfl) ?_
                refine AOps_nil ?_
                refine AWp_condF rfl ?_
                refine AWp_exit ?_
                refine AWp_seq ?_
                refine AWp_seq ?_
                -- region 39 ref.go:112
                refine AWp_regL ?_
                have hll : lz d f d.size = l := by rw [← hl1]; exact lz_no (by omega) hl2
                have hxs : (d.extract f l).size ≤ d.size := by rw [ByteArray.size_extract]; omega
                have hnf : nF ⟨ng, dn, pt, pw, d, b, x⟩ = f := hff
                have hnl : nL ⟨ng, dn, pt, pw, d, b, x⟩ = l := by unfold nL; rw [hnf]; exact hll
                have hof : nOf ⟨ng, dn, pt, pw, d, b, x⟩ = ⟨ng, d.extract f l, xx - b + ((d.size : Int) - l)⟩ := by unfold nOf; rw [hnf, hnl, ← hx1]
                refine st rfl rfl rfl (op_moveO rfl rfl) ?_
                refine st rfl rfl rfl (op_moveO rfl rfl) ?_
                refine st rfl rfl rfl (op_eql rfl rfl rfl) ?_
                refine AOps_nil ?_
                refine AWp_cond rfl (fun h22 => ?_) (fun h22 => ?_)
                · (try rw [h22]); (try simp only [decide_eq_true_eq, decide_eq_false_iff_not, Bool.not_eq_true', Bool.not_eq_false', Int.not_lt, Int.not_le, Bool.not_true, Bool.not_false, Int.toNat_natCast, tn1, tn2, tm1, tnn, bne_iff_ne, beq_iff_eq, beq_eq_false_iff_ne, ne_eq, Decidable.not_not] at h22)
                  refine AWp_seq ?_
                  -- region 40 ref.go:113
                  refine AWp_regL ?_
                  refine st rfl rfl rfl (op_buildP (cs := [_, _, _]) [(0, 1), (1, 1), (2, 1)] rfl Tryd.underlying24 Tryd.zeroValue24 ⟨rfl, Tryd.sizeOf4, ⟨rfl, Tryd.sizeOf9, ⟨rfl, Tryd.sizeOf3, trivial⟩⟩⟩ rfl rfl) ?_
                  refine stN rfl rfl ((by first | exact op_storeO (r := [_, _, _]) rfl Tryd.sizeOf24 rfl rfl rfl rfl rfl (by decide) | exact op_storeP (r := [_, _, _]) rfl Tryd.sizeOf24 rfl rfl rfl (by assumption) rfl (by decide))) ?_
                  refine st rfl rfl rfl (op_assignO rfl rfl) ?_
                  refine AOps_nil ?_
                  refine AWp_ret ?_
                  (try simp only [blockQ, thenQ])
                  first | (exfalso; omega; done) | (have hE : rNum s = ({}, 0) := by unfold rNum; rw [if_neg (by simp [h1]; omega), ht, if_pos (by rw [hnf, hnl]; omega)]); rw [hE]; exact RQ_ret (rkvs_cons (rkv_ck rfl rfl rfl) (rkvs_cons (rkv_t rfl) rfl)) hcl (by simp [rks, AV.lt, AV.ltL, ofConst1, ncells]) (Ret_of rfl) | (have hE : rNum s = ({}, 5) := by unfold rNum; rw [if_neg (by simp [h1]; omega), ht, if_neg (by rw [hnf, hnl]; omega), if_neg (by rw [hof]; exact (pb_niff _).1 (by assumption))]); rw [hE]; exact RQ_ret (rkvs_cons (rkv_ck rfl rfl rfl) (rkvs_cons (rkv_t rfl) rfl)) hcl (by simp [rks, AV.lt, AV.ltL, ofConst1, ncells]) (Ret_of rfl) | (have hE : rNum s = (⟨ng, d.extract f l, xx - b + ((d.size : Int) - l)⟩, 0) := by unfold rNum; rw [if_neg (by simp [h1]; omega), ht, if_neg (by rw [hnf, hnl]; omega), if_pos (by rw [hof]; exact (pb_iff _).1 (by assumption)), hof]); rw [hE]; exact RQ_ret (rkvs_cons (rkv_ck rfl rfl rfl) (rkvs_cons (rkv_t rfl) rfl)) hcl (by simp [rks, AV.lt, AV.ltL, ofConst1, ncells]) (Ret_of rfl)
                · (try rw [h22]); (try simp only [decide_eq_true_eq, decide_eq_false_iff_not, Bool.not_eq_true', Bool.not_eq_false', Int.not_lt, Int.not_le, Bool.not_true, Bool.not_false, Int.toNat_natCast, tn1, tn2, tm1, tnn, bne_iff_ne, beq_iff_eq, beq_eq_false_iff_ne, ne_eq, Decidable.not_not] at h22)
                  refine AWp_skip ?_
                  refine AWp_seq ?_
                  -- region 41 ref.go:115
                  refine AWp_regL ?_
                  refine st rfl rfl rfl (op_moveO rfl rfl) ?_
                  refine st rfl rfl rfl (op_moveO rfl rfl) ?_
                  refine st rfl rfl rfl (op_moveO rfl rfl) ?_
                  refine st rfl rfl rfl (op_slice_str _ _ rfl Tryd.underlying9 rfl (by first | exact ⟨_, rfl⟩ | rfl) (by first | exact ⟨_, rfl⟩ | rfl) (by omega) (by omega) (by omega)) ?_
                  simp only [Int.toNat_natCast]
                  refine st rfl rfl rfl (op_fieldAddrO (fo := 1) rfl Tryd.underlying24 rfl rfl Tryd.sizeOf9 (by decide) rfl trivial) ?_
                  refine stN rfl rfl (op_storeO (r := [.bool ng, .str (d.extract f l), .int .i64 0]) rfl Tryd.sizeOf9 rfl rfl rfl rfl rfl (by decide)) ?_
                  refine AOps_nil ?_
                  refine AWp_seq ?_
                  -- region 42 ref.go:116
                  refine AWp_regL ?_
                  refine st rfl rfl rfl (op_moveO rfl rfl) ?_
                  refine st rfl rfl rfl (op_fieldAddrO (fo := 2) rfl Tryd.underlying24 rfl rfl Tryd.sizeOf3 (by decide) rfl trivial) ?_
                  refine stN rfl rfl (op_storeO (r := [.bool ng, .str (d.extract f l), .int .i64 (xx - b + ((d.size : Int) - l))]) rfl Tryd.sizeOf3 rfl rfl rfl rfl rfl (by decide)) ?_
                  refine AOps_nil ?_
                  refine AWp_seq ?_
                  -- region 43 ref.go:117
                  refine AWp_regL ?_
                  refine st rfl rfl rfl (op_loadK (cs := [_, _, _]) rfl Tryd.isAgg24 Tryd.sizeOf24 (by first | exact ldv_own rfl rfl | exact ldv_pp rfl | exact ldv_old (by assumption) rfl | exact ldv_ptr (by assumption) rfl)) ?_
                  refine st rfl rfl rfl (op_callF rfl rfl rfl Tryd.func23 rfl rfl (mayNum_c ⟨ng, d.extract f l, xx - b + ((d.size : Int) - l)⟩ _ (by simp only; omega))) ?_
                  refine st rfl rfl rfl (op_assignO rfl rfl) ?_
                  refine AOps_nil ?_
                  refine AWp_seq ?_
                  refine AWp_seq ?_
                  -- region 44 ref.go:118
                  refine AWp_regL ?_
                  refine st rfl rfl rfl (op_moveO rfl rfl) ?_
                  refine st rfl rfl rfl (op_not rfl rfl) ?_
                  refine AOps_nil ?_
                  refine AWp_cond rfl (fun h23 => ?_) (fun h23 => ?_)
                  · (try rw [h23]); (try simp only [decide_eq_true_eq, decide_eq_false_iff_not, Bool.not_eq_true', Bool.not_eq_false', Int.not_lt, Int.not_le, Bool.not_true, Bool.not_false, Int.toNat_natCast, tn1, tn2, tm1, tnn, bne_iff_ne, beq_iff_eq, beq_eq_false_iff_ne, ne_eq, Decidable.not_not] at h23)
                    refine AWp_seq ?_
                    -- region 45 ref.go:119
                    refine AWp_regL ?_
                    refine st rfl rfl rfl (op_buildP (cs := [_, _, _]) [(0, 1), (1, 1), (2, 1)] rfl Tryd.underlying24 Tryd.zeroValue24 ⟨rfl, Tryd.sizeOf4, ⟨rfl, Tryd.sizeOf9, ⟨rfl, Tryd.sizeOf3, trivial⟩⟩⟩ rfl rfl) ?_
                    refine stN rfl rfl ((by first | exact op_storeO (r := [_, _, _]) rfl Tryd.sizeOf24 rfl rfl rfl rfl rfl (by decide) | exact op_storeP (r := [_, _, _]) rfl Tryd.sizeOf24 rfl rfl rfl (by assumption) rfl (by decide))) ?_
                    refine st rfl rfl rfl (op_assignO rfl rfl) ?_
                    refine AOps_nil ?_
                    refine AWp_ret ?_
                    (try simp only [blockQ, thenQ])
                    first | (exfalso; omega; done) | (have hE : rNum s = ({}, 0) := by unfold rNum; rw [if_neg (by simp [h1]; omega), ht, if_pos (by rw [hnf, hnl]; omega)]); rw [hE]; exact RQ_ret (rkvs_cons (rkv_ck rfl rfl rfl) (rkvs_cons (rkv_t rfl) rfl)) hcl (by simp [rks, AV.lt, AV.ltL, ofConst1, ncells]) (Ret_of rfl) | (have hE : rNum s = ({}, 5) := by unfold rNum; rw [if_neg (by simp [h1]; omega), ht, if_neg (by rw [hnf, hnl]; omega), if_neg (by rw [hof]; exact (pb_niff _).1 (by assumption))]); rw [hE]; exact RQ_ret (rkvs_cons (rkv_ck rfl rfl rfl) (rkvs_cons (rkv_t rfl) rfl)) hcl (by simp [rks, AV.lt, AV.ltL, ofConst1, ncells]) (Ret_of rfl) | (have hE : rNum s = (⟨ng, d.extract f l, xx - b + ((d.size : Int) - l)⟩, 0) := by unfold rNum; rw [if_neg (by simp [h1]; omega), ht, if_neg (by rw [hnf, hnl]; omega), if_pos (by rw [hof]; exact (pb_iff _).1 (by assumption)), hof]); rw [hE]; exact RQ_ret (rkvs_cons (rkv_ck rfl rfl rfl) (rkvs_cons (rkv_t rfl) rfl)) hcl (by simp [rks, AV.lt, AV.ltL, ofConst1, ncells]) (Ret_of rfl)
                  · (try rw [h23]); (try simp only [decide_eq_true_eq, decide_eq_false_iff_not, Bool.not_eq_true', Bool.not_eq_false', Int.not_lt, Int.not_le, Bool.not_true, Bool.not_false, Int.toNat_natCast, tn1, tn2, tm1, tnn, bne_iff_ne, beq_iff_eq, beq_eq_false_iff_ne, ne_eq, Decidable.not_not] at h23)
                    refine AWp_skip ?_
                    refine AWp_seq ?_
                    -- region 46 ref.go:121
                    refine AWp_regL ?_
                    refine st rfl rfl rfl (op_loadK (cs := [_, _, _]) rfl Tryd.isAgg24 Tryd.sizeOf24 (by first | exact ldv_own rfl rfl | exact ldv_pp rfl | exact ldv_old (by assumption) rfl | exact ldv_ptr (by assumption) rfl)) ?_
                    refine stN rfl rfl ((by first | exact op_storeO (r := [_, _, _]) rfl Tryd.sizeOf24 rfl rfl rfl rfl rfl (by decide) | exact op_storeP (r := [_, _, _]) rfl Tryd.sizeOf24 rfl rfl rfl (by assumption) rfl (by decide))) ?_
                    refine st rfl rfl rfl (op_assignO rfl rfl) ?_
                    refine AOps_nil ?_
                    refine AWp_ret ?_
                    (try simp only [blockQ, thenQ])
                    first | (exfalso; omega; done) | (have hE : rNum s = ({}, 0) := by unfold rNum; rw [if_neg (by simp [h1]; omega), ht, if_pos (by rw [hnf, hnl]; omega)]); rw [hE]; exact RQ_ret (rkvs_cons (rkv_ck rfl rfl rfl) (rkvs_cons (rkv_t rfl) rfl)) hcl (by simp [rks, AV.lt, AV.ltL, ofConst1, ncells]) (Ret_of rfl) | (have hE : rNum s = ({}, 5) := by unfold rNum; rw [if_neg (by simp [h1]; omega), ht, if_neg (by rw [hnf, hnl]; omega), if_neg (by rw [hof]; exact (pb_niff _).1 (by assumption))]); rw [hE]; exact RQ_ret (rkvs_cons (rkv_ck rfl rfl rfl) (rkvs_cons (rkv_t rfl) rfl)) hcl (by simp [rks, AV.lt, AV.ltL, ofConst1, ncells]) (Ret_of rfl) | (have hE : rNum s = (⟨ng, d.extract f l, xx - b + ((d.size : Int) - l)⟩, 0) := by unfold rNum; rw [if_neg (by simp [h1]; omega), ht, if_neg (by rw [hnf, hnl]; omega), if_pos (by rw [hof]; exact (pb_iff _).1 (by assumption)), hof]); rw [hE]; exact RQ_ret (rkvs_cons (rkv_ck rfl rfl rfl) (rkvs_cons (rkv_t rfl) rfl)) hcl (by simp [rks, AV.lt, AV.ltL, ofConst1, ncells]) (Ret_of rfl)
          · rw [h16]; (try simp only [decide_eq_true_eq, decide_eq_false_iff_not, Bool.not_eq_true', Bool.not_eq_false', Int.not_lt, Int.not_le, Bool.not_true, Bool.not_false, Int.toNat_natCast, tn1, tn2, tm1, tnn, bne_iff_ne, beq_iff_eq, beq_eq_false_iff_ne, ne_eq, Decidable.not_not] at h16)
            refine stS rfl rfl rfl (.inl rfl) rfl rfl ?_
            refine stS rfl rfl rfl (.inl rfl) rfl rfl ?_
            refine stS rfl rfl rfl (.inl rfl) rfl rfl ?_
            refine stS rfl rfl rfl (.inl rfl) rfl rfl ?_
            refine st rfl rfl rfl (op_pickFO rfl rfl rfl) ?_
            refine AOps_nil ?_
            refine AWp_condF rfl ?_
            refine AWp_exit ?_
            refine AWp_seq ?_
            -- region 35 ref.go:107
            refine AWp_regL ?_
            refine st rfl rfl rfl (op_moveO rfl rfl) ?_
            refine st rfl rfl rfl (op_lenStr rfl rfl Tryd.underlying9 rfl) ?_
            refine st rfl rfl rfl (op_assignO rfl rfl) ?_
            refine AOps_nil ?_
            refine AWp_seq ?_
            refine AWp_block ?_
            -- loop 3 LIVE 2:alloc 3:assign 6:alloc 7:assign 10:assign 15:assign 16:assign
            have hff : fz d 0 = f := by rw [← hf1]; exact fz_no (by omega)
            refine AWp_loop (ι := Nat) (fun l => lz d f l = lz d f d.size ∧ f ≤ l ∧ l ≤ d.size) (fun l => ⟨[], [(2, .ptr (σ.length + 0) 0), (6, .ptr (σ.length + 1) 0), (7, .str d), (10, .int .i64 (xx - b + ((d.size : Int) - l))), (15, .int .i64 (f : Int)), (16, .int .i64 (l : Int))]⟩) (fun l => σ ++ [_, _]) (fun l => l) (d.size) (⟨rfl, hf2, Nat.le_refl _⟩) ?_ rfl (fun l hl => ?_)
            · refine ⟨rfl, rfl, rfl, rfl, ?_, rfl, rfl, trivial⟩
              rw [Int.sub_self, Int.add_zero]; rfl
            obtain ⟨hl1, hl2, hl3⟩ := hl
            refine AWp_seq ?_
            refine AWp_seq ?_
            -- region 36 ref.go:108
            refine AWp_regL ?_
            refine st rfl rfl rfl (op_moveO rfl rfl) ?_
            refine st rfl rfl rfl (op_moveO rfl rfl) ?_
            refine st rfl rfl rfl (op_gtr rfl rfl rfl) ?_
            refine st rfl rfl rfl (op_moveO rfl rfl) ?_
            refine AOps_split 99 rfl (fun h24 => ?_) (fun h24 => ?_)
            · rw [h24]; (try simp only [decide_eq_true_eq, decide_eq_false_iff_not, Bool.not_eq_true', Bool.not_eq_false', Int.not_lt, Int.not_le, Bool.not_true, Bool.not_false, Int.toNat_natCast, tn1, tn2, tm1, tnn, bne_iff_ne, beq_iff_eq, beq_eq_false_iff_ne, ne_eq, Decidable.not_not] at h24)
              refine stG rfl rfl rfl rfl rfl rfl (op_moveO rfl rfl) ?_
              refine stG rfl rfl rfl rfl rfl rfl (op_moveO rfl rfl) ?_
              refine stG rfl rfl rfl rfl rfl rfl (op_sub64 rfl rfl rfl (by omega) (by omega)) ?_
              refine stG rfl rfl rfl rfl rfl rfl (op_index_strB rfl Tryd.underlying9 rfl rfl (by omega) (by omega)) ?_
              refine stG rfl rfl rfl rfl rfl rfl (op_eql rfl rfl rfl) ?_
              refine st rfl rfl rfl (op_pickTO rfl rfl rfl) ?_
              refine AOps_nil ?_
              refine AWp_cond rfl (fun h25 => ?_) (fun h25 => ?_)
              · (try rw [h25]); (try simp only [decide_eq_true_eq, decide_eq_false_iff_not, Bool.not_eq_true', Bool.not_eq_false', Int.not_lt, Int.not_le, Bool.not_true, Bool.not_false, Int.toNat_natCast, tn1, tn2, tm1, tnn, bne_iff_ne, beq_iff_eq, beq_eq_false_iff_ne, ne_eq, Decidable.not_not] at h25)
                refine AWp_skip ?_
                refine AWp_block ?_
                refine AWp_seq ?_
                -- region 37 ref.go:109
                refine AWp_regL ?_
                refine st rfl rfl rfl (op_moveO rfl rfl) ?_
                refine st rfl rfl rfl (op_sub64 rfl rfl rfl (by omega) (by omega)) ?_
                refine st rfl rfl rfl (op_assignO rfl rfl) ?_
                refine AOps_nil ?_
                -- region 38 ref.go:110
                refine AWp_regL ?_
                refine st rfl rfl rfl (op_moveO rfl rfl) ?_
                refine st rfl rfl rfl (op_add64 rfl rfl rfl (by omega) (by omega)) ?_
                refine st rfl rfl rfl (op_assignO rfl rfl) ?_
                refine AOps_nil ?_
                refine ⟨l - 1, σ.length + 2, ⟨by rw [← hl1]; exact (lz_yes (by omega) (by omega)).symm, by omega⟩, by omega, by simp, ⟨rfl, rfl, rfl, rfl, ?_, rfl, ?_, trivial⟩, closed_own 2 hcl (by simp [ownLt, AO.cells, AV.ltL, AV.lt]), by simp [ltE, AV.lt], take_own 2⟩
                · rw [show xx - b + ((d.size : Int) - ((l - 1 : Nat) : Int)) = xx - b + ((d.size : Int) - (l : Int)) + 1 by omega]; rfl
                · rw [show ((l - 1 : Nat) : Int) = (l : Int) - 1 by omega]; rfl
              · (try rw [h25]); (try simp only [decide_eq_true_eq, decide_eq_false_iff_not, Bool.not_eq_true', Bool.not_eq_false', Int.not_lt, Int.not_le, Bool.not_true, Bool.not_false, Int.toNat_natCast, tn1, tn2, tm1, tnn, bne_iff_ne, beq_iff_eq, beq_eq_false_iff_ne, ne_eq, Decidable.not_not] at h25)
                refine AWp_exit ?_
                refine AWp_seq ?_
                refine AWp_seq ?_
                -- region 39 ref.go:112
                refine AWp_regL ?_
                have hll : lz d f d.size = l := by rw [← hl1]; exact lz_no (by omega) hl2
                have hxs : (d.extract f l).size ≤ d.size := by rw [ByteArray.size_extract]; omega
                have hnf : nF ⟨ng, dn, pt, pw, d, b, x⟩ = f := hff
                have hnl : nL ⟨ng, dn, pt, pw, d, b, x⟩ = l := by unfold nL; rw [hnf]; exact hll
                have hof : nOf ⟨ng, dn, pt, pw, d, b, x⟩ = ⟨ng, d.extract f l, xx - b + ((d.size : Int) - l)⟩ := by unfold nOf; rw [hnf, hnl, ← hx1]
                refine st rfl rfl rfl (op_moveO rfl rfl) ?_
                refine st rfl rfl rfl (op_moveO rfl rfl) ?_
                refine st rfl rfl rfl (op_eql rfl rfl rfl) ?_
                refine AOps_nil ?_
                refine AWp_cond rfl (fun h26 => ?_) (fun h26 => ?_)
                · (try rw [h26]); (try simp only [decide_eq_true_eq, decide_eq_false_iff_not, Bool.not_eq_true', Bool.not_eq_false', Int.not_lt, Int.not_le, Bool.not_true, Bool.not_false, Int.toNat_natCast, tn1, tn2, tm1, tnn, bne_iff_ne, beq_iff_eq, beq_eq_false_iff_ne, ne_eq, Decidable.not_not] at h26)
                  refine AWp_seq ?_
                  -- region 40 ref.go:113
                  refine AWp_regL ?_
                  refine st rfl rfl rfl (op_buildP (cs := [_, _, _]) [(0, 1), (1, 1), (2, 1)] rfl Tryd.underlying24 Tryd.zeroValue24 ⟨rfl, Tryd.sizeOf4, ⟨rfl, Tryd.sizeOf9, ⟨rfl, Tryd.sizeOf3, trivial⟩⟩⟩ rfl rfl) ?_
                  refine stN rfl rfl ((by first | exact op_storeO (r := [_, _, _]) rfl Tryd.sizeOf24 rfl rfl rfl rfl rfl (by decide) | exact op_storeP (r := [_, _, _]) rfl Tryd.sizeOf24 rfl rfl rfl (by assumption) rfl (by decide))) ?_
                  refine st rfl rfl rfl (op_assignO rfl rfl) ?_
                  refine AOps_nil ?_
                  refine AWp_ret ?_
                  (try simp only [blockQ, thenQ])
                  first | (exfalso; omega; done) | (have hE : rNum s = ({}, 0) := by unfold rNum; rw [if_neg (by simp [h1]; omega), ht, if_pos (by rw [hnf, hnl]; omega)]); rw [hE]; exact RQ_ret (rkvs_cons (rkv_ck rfl rfl rfl) (rkvs_cons (rkv_t rfl) rfl)) hcl (by simp [rks, AV.lt, AV.ltL, ofConst1, ncells]) (Ret_of rfl) | (have hE : rNum s = ({}, 5) := by unfold rNum; rw [if_neg (by simp [h1]; omega), ht, if_neg (by rw [hnf, hnl]; omega), if_neg (by rw [hof]; exact (pb_niff _).1 (by assumption))]); rw [hE]; exact RQ_ret (rkvs_cons (rkv_ck rfl rfl rfl) (rkvs_cons (rkv_t rfl) rfl)) hcl (by simp [rks, AV.lt, AV.ltL, ofConst1, ncells]) (Ret_of rfl) | (have hE : rNum s = (⟨ng, d.extract f l, xx - b + ((d.size : Int) - l)⟩, 0) := by unfold rNum; rw [if_neg (by simp [h1]; omega), ht, if_neg (by rw [hnf, hnl]; omega), if_pos (by rw [hof]; exact (pb_iff _).1 (by assumption)), hof]); rw [hE]; exact RQ_ret (rkvs_cons (rkv_ck rfl rfl rfl) (rkvs_cons (rkv_t rfl) rfl)) hcl (by simp [rks, AV.lt, AV.ltL, ofConst1, ncells]) (Ret_of rfl)
                · (try rw [h26]); (try simp only [decide_eq_true_eq, decide_eq_false_iff_not, Bool.not_eq_true', Bool.not_eq_false', Int.not_lt, Int.not_le, Bool.not_true, Bool.not_false, Int.toNat_natCast, tn1, tn2, tm1, tnn, bne_iff_ne, beq_iff_eq, beq_eq_false_iff_ne, ne_eq, Decidable.not_not] at h26)
                  refine AWp_skip ?_
                  refine AWp_seq ?_
                  -- region 41 ref.go:115
                  refine AWp_regL ?_
                  refine st rfl rfl rfl (op_moveO rfl rfl) ?_
                  refine st rfl rfl rfl (op_moveO rfl rfl) ?_
                  refine st rfl rfl rfl (op_moveO rfl rfl) ?_
                  refine st rfl rfl rfl (op_slice_str _ _ rfl Tryd.underlying9 rfl (by first | exact ⟨_, rfl⟩ | rfl) (by first | exact ⟨_, rfl⟩ | rfl) (by omega) (by omega) (by omega)) ?_
                  simp only [Int.toNat_natCast]
                  refine st rfl rfl rfl (op_fieldAddrO (fo := 1) rfl Tryd.underlying24 rfl rfl Tryd.sizeOf9 (by decide) rfl trivial) ?_
                  refine stN rfl rfl (op_storeO (r := [.bool ng, .str (d.extract f l), .int .i64 0]) rfl Tryd.sizeOf9 rfl rfl rfl rfl rfl (by decide)) ?_
                  refine AOps_nil ?_
                  refine AWp_seq ?_
                  -- region 42 ref.go:116
                  refine AWp_regL ?_
                  refine st rfl rfl rfl (op_moveO rfl rfl) ?_
                  refine st rfl rfl rfl (op_fieldAddrO (fo := 2) rfl Tryd.underlying24 rfl rfl Tryd.sizeOf3 (by decide) rfl trivial) ?_
                  refine stN rfl rfl (op_storeO (r := [.bool ng, .str (d.extract f l), .int .i64 (xx - b + ((d.size : Int) - l))]) rfl Tryd.sizeOf3 rfl rfl rfl rfl rfl (by decide)) ?_
                  refine AOps_nil ?_
                  refine AWp_seq ?_
                  -- region 43 ref.go:117
                  refine AWp_regL ?_
                  refine st rfl rfl rfl (op_loadK (cs := [_, _, _]) rfl Tryd.isAgg24 Tryd.sizeOf24 (by first | exact ldv_own rfl rfl | exact ldv_pp rfl | exact ldv_old (by assumption) rfl | exact ldv_ptr (by assumption) rfl)) ?_
                  refine st rfl rfl rfl (op_callF rfl rfl rfl Tryd.func23 rfl rfl (mayNum_c ⟨ng, d.extract f l, xx - b + ((d.size : Int) - l)⟩ _ (by simp only; omega))) ?_
                  refine st rfl rfl rfl (op_assignO rfl rfl) ?_
                  refine AOps_nil ?_
                  refine AWp_seq ?_
                  refine AWp_seq ?_
                  -- region 44 ref.go:118
                  refine AWp_regL ?_
                  refine st rfl rfl rfl (op_moveO rfl rfl) ?_
                  refine st rfl rfl rfl (op_not rfl rfl) ?_
                  refine AOps_nil ?_
                  refine AWp_cond rfl (fun h27 => ?_) (fun h27 => ?_)
                  · (try rw [h27]); (try simp only [decide_eq_true_eq, decide_eq_false_iff_not, Bool.not_eq_true', Bool.not_eq_false', Int.not_lt, Int.not_le, Bool.not_true, Bool.not_false, Int.toNat_natCast, tn1, tn2, tm1, tnn, bne_iff_ne, beq_iff_eq, beq_eq_false_iff_ne, ne_eq, Decidable.not_not] at h27)
                    refine AWp_seq ?_
                    -- region 45 ref.go:119
                    refine AWp_regL ?_
                    refine st rfl rfl rfl (op_buildP (cs := [_, _, _]) [(0, 1), (1, 1), (2, 1)] rfl Tryd.underlying24 Tryd.zeroValue24 ⟨rfl, Tryd.sizeOf4, ⟨rfl, Tryd.sizeOf9, ⟨rfl, Tryd.sizeOf3, trivial⟩⟩⟩ rfl rfl) ?_
                    refine stN rfl rfl ((by first | exact op_storeO (r := [_, _, _]) rfl Tryd.sizeOf24 rfl rfl rfl rfl rfl (by decide) | exact op_storeP (r := [_, _, _]) rfl Tryd.sizeOf24 rfl rfl rfl (by assumption) rfl (by decide))) ?_
                    refine st rfl rfl rfl (op_assignO rfl rfl) ?_
                    refine AOps_nil ?_
                    refine AWp_ret ?_
                    (try simp only [blockQ, thenQ])
                    first | (exfalso; omega; done) | (have hE : rNum s = ({}, 0) := by unfold rNum; rw [if_neg (by simp [h1]; omega), ht, if_pos (by rw [hnf, hnl]; omega)]); rw [hE]; exact RQ_ret (rkvs_cons (rkv_ck rfl rfl rfl) (rkvs_cons (rkv_t rfl) rfl)) hcl (by simp [rks, AV.lt, AV.ltL, ofConst1, ncells]) (Ret_of rfl) | (have hE : rNum s = ({}, 5) := by unfold rNum; rw [if_neg (by simp [h1]; omega), ht, if_neg (by rw [hnf, hnl]; omega), if_neg (by rw [hof]; exact (pb_niff _).1 (by assumption))]); rw [hE]; exact RQ_ret (rkvs_cons (rkv_ck rfl rfl rfl) (rkvs_cons (rkv_t rfl) rfl)) hcl (by simp [rks, AV.lt, AV.ltL, ofConst1, ncells]) (Ret_of rfl) | (have hE : rNum s = (⟨ng, d.extract f l, xx - b + ((d.size : Int) - l)⟩, 0) := by unfold rNum; rw [if_neg (by simp [h1]; omega), ht, if_neg (by rw [hnf, hnl]; omega), if_pos (by rw [hof]; exact (pb_iff _).1 (by assumption)), hof]); rw [hE]; exact RQ_ret (rkvs_cons (rkv_ck rfl rfl rfl) (rkvs_cons (rkv_t rfl) rfl)) hcl (by simp [rks, AV.lt, AV.ltL, ofConst1, ncells]) (Ret_of rfl)
                  · (try rw [h27]); (try simp only [decide_eq_true_eq, decide_eq_false_iff_not, Bool.not_eq_true', Bool.not_eq_false', Int.not_lt, Int.not_le, Bool.not_true, Bool.not_false, Int.toNat_natCast, tn1, tn2, tm1, tnn, bne_iff_ne, beq_iff_eq, beq_eq_false_iff_ne, ne_eq, Decidable.not_not] at h27)
                    refine AWp_skip ?_
                    refine AWp_seq ?_
                    -- region 46 ref.go:121
                    refine AWp_regL ?_
                    refine st rfl rfl rfl (op_loadK (cs := [_, _, _]) rfl Tryd.isAgg24 Tryd.sizeOf24 (by first | exact ldv_own rfl rfl | exact ldv_pp rfl | exact ldv_old (by assumption) rfl | exact ldv_ptr (by assumption) rfl)) ?_
                    refine stN rfl rfl ((by first | exact op_storeO (r := [_, _, _]) rfl Tryd.sizeOf24 rfl rfl rfl rfl rfl (by decide) | exact op_storeP (r := [_, _, _]) rfl Tryd.sizeOf24 rfl rfl rfl (by assumption) rfl (by decide))) ?_
                    refine st rfl rfl rfl (op_assignO rfl rfl) ?_
                    refine AOps_nil ?_
                    refine AWp_ret ?_
                    (try simp only [blockQ, thenQ])
                    first | (exfalso; omega; done) | (have hE : rNum s = ({}, 0) := by unfold rNum; rw [if_neg (by simp [h1]; omega), ht, if_pos (by rw [hnf, hnl]; omega)]); rw [hE]; exact RQ_ret (rkvs_cons (rkv_ck rfl rfl rfl) (rkvs_cons (rkv_t rfl) rfl)) hcl (by simp [rks, AV.lt, AV.ltL, ofConst1, ncells]) (Ret_of rfl) | (have hE : rNum s = ({}, 5) := by unfold rNum; rw [if_neg (by simp [h1]; omega), ht, if_neg (by rw [hnf, hnl]; omega), if_neg (by rw [hof]; exact (pb_niff _).1 (by assumption))]); rw [hE]; exact RQ_ret (rkvs_cons (rkv_ck rfl rfl rfl) (rkvs_cons (rkv_t rfl) rfl)) hcl (by simp [rks, AV.lt, AV.ltL, ofConst1, ncells]) (Ret_of rfl) | (have hE : rNum s = (⟨ng, d.extract f l, xx - b + ((d.size : Int) - l)⟩, 0) := by unfold rNum; rw [if_neg (by simp [h1]; omega), ht, if_neg (by rw [hnf, hnl]; omega), if_pos (by rw [hof]; exact (pb_iff _).1 (by assumption)), hof]); rw [hE]; exact RQ_ret (rkvs_cons (rkv_ck rfl rfl rfl) (rkvs_cons (rkv_t rfl) rfl)) hcl (by simp [rks, AV.lt, AV.ltL, ofConst1, ncells]) (Ret_of rfl)
            · rw [h24]; (try simp only [decide_eq_true_eq, decide_eq_false_iff_not, Bool.not_eq_true', Bool.not_eq_false', Int.not_lt, Int.not_le, Bool.not_true, Bool.not_false, Int.toNat_natCast, tn1, tn2, tm1, tnn, bne_iff_ne, beq_iff_eq, beq_eq_false_iff_ne, ne_eq, Decidable.not_not] at h24)
              refine stS rfl rfl rfl (.inl rfl) rfl rfl ?_
              refine stS rfl rfl rfl (.inl rfl) rfl rfl ?_
              refine stS rfl rfl rfl (.inl rfl) rfl rfl ?_
              refine stS rfl rfl rfl (.inl rfl) rfl rfl ?_
              refine stS rfl rfl rfl (.inl rfl) rfl rfl ?_
              refine st rfl rfl rfl (op_pickFO rfl rfl rfl) ?_
              refine AOps_nil ?_
              refine AWp_condF rfl ?_
              refine AWp_exit ?_
              refine AWp_seq ?_
              refine AWp_seq ?_
              -- region 39 ref.go:112
              refine AWp_regL ?_
              have hll : lz d f d.size = l := by rw [← hl1]; exact lz_no (by omega) hl2
              have hxs : (d.extract f l).size ≤ d.size := by rw [ByteArray.size_extract]; omega
              have hnf : nF ⟨ng, dn, pt, pw, d, b, x⟩ = f := hff
              have hnl : nL ⟨ng, dn, pt, pw, d, b, x⟩ = l := by unfold nL; rw [hnf]; exact hll
              have hof : nOf ⟨ng, dn, pt, pw, d, b, x⟩ = ⟨ng, d.extract f l, xx - b + ((d.size : Int) - l)⟩ := by unfold nOf; rw [hnf, hnl, ← hx1]
              refine st rfl rfl rfl (op_moveO rfl rfl) ?_
              refine st rfl rfl rfl (op_moveO rfl rfl) ?_
              refine st rfl rfl rfl (op_eql rfl rfl rfl) ?_
              refine AOps_nil ?_
              refine AWp_cond rfl (fun h28 => ?_) (fun h28 => ?_)
              · (try rw [h28]); (try simp only [decide_eq_true_eq, decide_eq_false_iff_not, Bool.not_eq_true', Bool.not_eq_false', Int.not_lt, Int.not_le, Bool.not_true, Bool.not_false, Int.toNat_natCast, tn1, tn2, tm1, tnn, bne_iff_ne, beq_iff_eq, beq_eq_false_iff_ne, ne_eq, Decidable.not_not] at h28)
                refine AWp_seq ?_
                -- region 40 ref.go:113
                refine AWp_regL ?_
                refine st rfl rfl rfl (op_buildP (cs := [_, _, _]) [(0, 1), (1, 1), (2, 1)] rfl Tryd.underlying24 Tryd.zeroValue24 ⟨rfl, Tryd.sizeOf4, ⟨rfl, Tryd.sizeOf9, ⟨rfl, Tryd.sizeOf3, trivial⟩⟩⟩ rfl rfl) ?_
                refine stN rfl rfl ((by first | exact op_storeO (r := [_, _, _]) rfl Tryd.sizeOf24 rfl rfl rfl rfl rfl (by decide) | exact op_storeP (r := [_, _, _]) rfl Tryd.sizeOf24 rfl rfl rfl (by assumption) rfl (by decide))) ?_
                refine st rfl rfl rfl (op_assignO rfl rfl) ?_
                refine AOps_nil ?_
                refine AWp_ret ?_
                (try simp only [blockQ, thenQ])
                first | (exfalso; omega; done) | (have hE : rNum s = ({}, 0) := by unfold rNum; rw [if_neg (by simp [h1]; omega), ht, if_pos (by rw [hnf, hnl]; omega)]); rw [hE]; exact RQ_ret (rkvs_cons (rkv_ck rfl rfl rfl) (rkvs_cons (rkv_t rfl) rfl)) hcl (by simp [rks, AV.lt, AV.ltL, ofConst1, ncells]) (Ret_of rfl) | (have hE : rNum s = ({}, 5) := by unfold rNum; rw [if_neg (by simp [h1]; omega), ht, if_neg (by rw [hnf, hnl]; omega), if_neg (by rw [hof]; exact (pb_niff _).1 (by assumption))]); rw [hE]; exact RQ_ret (rkvs_cons (rkv_ck rfl rfl rfl) (rkvs_cons (rkv_t rfl) rfl)) hcl (by simp [rks, AV.lt, AV.ltL, ofConst1, ncells]) (Ret_of rfl) | (have hE : rNum s = (⟨ng, d.extract f l, xx - b + ((d.size : Int) - l)⟩, 0) := by unfold rNum; rw [if_neg (by simp [h1]; omega), ht, if_neg (by rw [hnf, hnl]; omega), if_pos (by rw [hof]; exact (pb_iff _).1 (by assumption)), hof]); rw [hE]; exact RQ_ret (rkvs_cons (rkv_ck rfl rfl rfl) (rkvs_cons (rkv_t rfl) rfl)) hcl (by simp [rks, AV.lt, AV.ltL, ofConst1, ncells]) (Ret_of rfl)
              · (try rw [h28]); (try simp only [decide_eq_true_eq, decide_eq_false_iff_not, Bool.not_eq_true', Bool.not_eq_false', Int.not_lt, Int.not_le, Bool.not_true, Bool.not_false, Int.toNat_natCast, tn1, tn2, tm1, tnn, bne_iff_ne, beq_iff_eq, beq_eq_false_iff_ne, ne_eq, Decidable.not_not] at h28)
                refine AWp_skip ?_
                refine AWp_seq ?_
                -- region 41 ref.go:115
                refine AWp_regL ?_
                refine st rfl rfl rfl (op_moveO rfl rfl) ?_
                refine st rfl rfl rfl (op_moveO rfl rfl) ?_
                refine st rfl rfl rfl (op_moveO rfl rfl) ?_
                refine st rfl rfl rfl (op_slice_str _ _ rfl Tryd.underlying9 rfl (by first | exact ⟨_, rfl⟩ | rfl) (by first | exact ⟨_, rfl⟩ | rfl) (by omega) (by omega) (by omega)) ?_
                simp only [Int.toNat_natCast]
                refine st rfl rfl rfl (op_fieldAddrO (fo := 1) rfl Tryd.underlying24 rfl rfl Tryd.sizeOf9 (by decide) rfl trivial) ?_
                refine stN rfl rfl (op_storeO (r := [.bool ng, .str (d.extract f l), .int .i64 0]) rfl Tryd.sizeOf9 rfl rfl rfl rfl rfl (by decide)) ?_
                refine AOps_nil ?_
                refine AWp_seq ?_
                -- region 42 ref.go:116
                refine AWp_regL ?_
                refine st rfl rfl rfl (op_moveO rfl rfl) ?_
                refine st rfl rfl rfl (op_fieldAddrO (fo := 2) rfl Tryd.underlying24 rfl rfl Tryd.sizeOf3 (by decide) rfl trivial) ?_
                refine stN rfl rfl (op_storeO (r := [.bool ng, .str (d.extract f l), .int .i64 (xx - b + ((d.size : Int) - l))]) rfl Tryd.sizeOf3 rfl rfl rfl rfl rfl (by decide)) ?_
                refine AOps_nil ?_
                refine AWp_seq ?_
                -- region 43 ref.go:117
                refine AWp_regL ?_
                refine st rfl rfl rfl (op_loadK (cs := [_, _, _]) rfl Tryd.isAgg24 Tryd.sizeOf24 (by first | exact ldv_own rfl rfl | exact ldv_pp rfl | exact ldv_old (by assumption) rfl | exact ldv_ptr (by assumption) rfl)) ?_
                refine st rfl rfl rfl (op_callF rfl rfl rfl Tryd.func23 rfl rfl (mayNum_c ⟨ng, d.extract f l, xx - b + ((d.size : Int) - l)⟩ _ (by simp only; omega))) ?_
                refine st rfl rfl rfl (op_assignO rfl rfl) ?_
                refine AOps_nil ?_
                refine AWp_seq ?_
                refine AWp_seq ?_
                -- region 44 ref.go:118
                refine AWp_regL ?_
                refine st rfl rfl rfl (op_moveO rfl rfl) ?_
                refine st rfl rfl rfl (op_not rfl rfl) ?_
                refine AOps_nil ?_
                refine AWp_cond rfl (fun h29 => ?_) (fun h29 => ?_)
                · (try rw [h29]); (try simp only [decide_eq_true_eq, decide_eq_false_iff_not, Bool.not_eq_true', Bool.not_eq_false', Int.not_lt, Int.not_le, Bool.not_true, Bool.not_false, Int.toNat_natCast, tn1, tn2, tm1, tnn, bne_iff_ne, beq_iff_eq, beq_eq_false_iff_ne, ne_eq, Decidable.not_not] at h29)
                  refine AWp_seq ?_
                  -- region 45 ref.go:119
                  refine AWp_regL ?_
                  refine st rfl rfl rfl (op_buildP (cs := [_, _, _]) [(0, 1), (1, 1), (2, 1)] rfl Tryd.underlying24 Tryd.zeroValue24 ⟨rfl, Tryd.sizeOf4, ⟨rfl, Tryd.sizeOf9, ⟨rfl, Tryd.sizeOf3, trivial⟩⟩⟩ rfl rfl) ?_
                  refine stN rfl rfl ((by first | exact op_storeO (r := [_, _, _]) rfl Tryd.sizeOf24 rfl rfl rfl rfl rfl (by decide) | exact op_storeP (r := [_, _, _]) rfl Tryd.sizeOf24 rfl rfl rfl (by assumption) rfl (by decide))) ?_
                  refine st rfl rfl rfl (op_assignO rfl rfl) ?_
                  refine AOps_nil ?_
                  refine AWp_ret ?_
                  (try simp only [blockQ, thenQ])
                  first | (exfalso; omega; done) | (have hE : rNum s = ({}, 0) := by unfold rNum; rw [if_neg (by simp [h1]; omega), ht, if_pos (by rw [hnf, hnl]; omega)]); rw [hE]; exact RQ_ret (rkvs_cons (rkv_ck rfl rfl rfl) (rkvs_cons (rkv_t rfl) rfl)) hcl (by simp [rks, AV.lt, AV.ltL, ofConst1, ncells]) (Ret_of rfl) | (have hE : rNum s = ({}, 5) := by unfold rNum; rw [if_neg (by simp [h1]; omega), ht, if_neg (by rw [hnf, hnl]; omega), if_neg (by rw [hof]; exact (pb_niff _).1 (by assumption))]); rw [hE]; exact RQ_ret (rkvs_cons (rkv_ck rfl rfl rfl) (rkvs_cons (rkv_t rfl) rfl)) hcl (by simp [rks, AV.lt, AV.ltL, ofConst1, ncells]) (Ret_of rfl) | (have hE : rNum s = (⟨ng, d.extract f l, xx - b + ((d.size : Int) - l)⟩, 0) := by unfold rNum; rw [if_neg (by simp [h1]; omega), ht, if_neg (by rw [hnf, hnl]; omega), if_pos (by rw [hof]; exact (pb_iff _).1 (by assumption)), hof]); rw [hE]; exact RQ_ret (rkvs_cons (rkv_ck rfl rfl rfl) (rkvs_cons (rkv_t rfl) rfl)) hcl (by simp [rks, AV.lt, AV.ltL, ofConst1, ncells]) (Ret_of rfl)
                · (try rw [h29]); (try simp only [decide_eq_true_eq, decide_eq_false_iff_not, Bool.not_eq_true', Bool.not_eq_false', Int.not_lt, Int.not_le, Bool.not_true, Bool.not_false, Int.toNat_natCast, tn1, tn2, tm1, tnn, bne_iff_ne, beq_iff_eq, beq_eq_false_iff_ne, ne_eq, Decidable.not_not] at h29)
                  refine AWp_skip ?_
                  refine AWp_seq ?_
                  -- region 46 ref.go:121
                  refine AWp_regL ?_
                  refine st rfl rfl rfl (op_loadK (cs := [_, _, _]) rfl Tryd.isAgg24 Tryd.sizeOf24 (by first | exact ldv_own rfl rfl | exact ldv_pp rfl | exact ldv_old (by assumption) rfl | exact ldv_ptr (by assumption) rfl)) ?_
                  refine stN rfl rfl ((by first | exact op_storeO (r := [_, _, _]) rfl Tryd.sizeOf24 rfl rfl rfl rfl rfl (by decide) | exact op_storeP (r := [_, _, _]) rfl Tryd.sizeOf24 rfl rfl rfl (by assumption) rfl (by decide))) ?_
                  refine st rfl rfl rfl (op_assignO rfl rfl) ?_
                  refine AOps_nil ?_
                  refine AWp_ret ?_
                  (try simp only [blockQ, thenQ])
                  first | (exfalso; omega; done) | (have hE : rNum s = ({}, 0) := by unfold rNum; rw [if_neg (by simp [h1]; omega), ht, if_pos (by rw [hnf, hnl]; omega)]); rw [hE]; exact RQ_ret (rkvs_cons (rkv_ck rfl rfl rfl) (rkvs_cons (rkv_t rfl) rfl)) hcl (by simp [rks, AV.lt, AV.ltL, ofConst1, ncells]) (Ret_of rfl) | (have hE : rNum s = ({}, 5) := by unfold rNum; rw [if_neg (by simp [h1]; omega), ht, if_neg (by rw [hnf, hnl]; omega), if_neg (by rw [hof]; exact (pb_niff _).1 (by assumption))]); rw [hE]; exact RQ_ret (rkvs_cons (rkv_ck rfl rfl rfl) (rkvs_cons (rkv_t rfl) rfl)) hcl (by simp [rks, AV.lt, AV.ltL, ofConst1, ncells]) (Ret_of rfl) | (have hE : rNum s = (⟨ng, d.extract f l, xx - b + ((d.size : Int) - l)⟩, 0) := by unfold rNum; rw [if_neg (by simp [h1]; omega), ht, if_neg (by rw [hnf, hnl]; omega), if_pos (by rw [hof]; exact (pb_iff _).1 (by assumption)), hof]); rw [hE]; exact RQ_ret (rkvs_cons (rkv_ck rfl rfl rfl) (rkvs_cons (rkv_t rfl) rfl)) hcl (by simp [rks, AV.lt, AV.ltL, ofConst1, ncells]) (Ret_of rfl)

end Lg
