/- A part of the proof of StrTells: the text that stands in quotes at any place of any bytes, or what is amiss, where; any text in quotes: W1. -/
import Derived.Test.YtiihpckdafldkaaDoorP3
import Derived.Test.YtiihpckdafldkaaDoorProg
set_option linter.unusedVariables false
set_option linter.unusedSimpArgs false
set_option linter.unusedSectionVars false
set_option maxRecDepth 20000
namespace Lg
open Go Go.Proofs Go.RowKit
variable [GLay] 

theorem Tryd.mixed : Tryd.prog.follows .mixedOrders = true := by kernel_rfl
theorem bare_c (v : JV) (σ : List AO) : ACalls Tryd.prog 28 [.agg (vcells v)] σ (Ret (.bool (jbare v)) σ) := by
  refine ACalls_body Tryd.func28 rfl Tryd.ntmps28 (res1 Tryd.results28) (Nat.le_of_ble_eq_true rfl) (fun hcl hal => ?_)
  rw [vcells_eq v]
  refine AWp_seq ?_
  -- region 0 value.go:26
  refine AWp_regL ?_
  refine st rfl rfl rfl (op_box0 (cs := [_, _, _, _, _, _, _, _]) rfl rfl rfl) ?_
  refine st rfl rfl rfl (op_assignO rfl rfl) ?_
  refine AOps_nil ?_
  refine AWp_seq ?_
  refine AWp_seq ?_
  -- region 1 value.go:27
  refine AWp_regL ?_
  refine st rfl rfl rfl (op_fieldAddrO (fo := 1) rfl Tryd.underlying28 rfl rfl Tryd.sizeOf4 (by decide) rfl trivial) ?_
  refine st rfl rfl rfl (op_load1 rfl Tryd.isAgg4 (by first | exact ldv_own rfl rfl | exact ldv_pp rfl | exact ldv_old (by assumption) rfl | exact ldv_ptr (by assumption) rfl)) ?_
  refine st rfl rfl rfl (op_moveO rfl rfl) ?_
  refine AOps_split 5 rfl (fun h1 => ?_) (fun h1 => ?_)
  · rw [h1]; (try simp only [decide_eq_true_eq, decide_eq_false_iff_not, Bool.not_eq_true', Bool.not_eq_false', Int.not_lt, Int.not_le, Bool.not_true, Bool.not_false, Int.toNat_natCast, bne_iff_ne, beq_iff_eq, ne_eq, Decidable.not_not] at h1)
    refine stG rfl rfl rfl rfl rfl rfl (op_fieldAddrO (fo := 0) rfl Tryd.underlying28 rfl rfl Tryd.sizeOf3 (by decide) rfl trivial) ?_
    refine stG rfl rfl rfl rfl rfl rfl (op_load1 rfl Tryd.isAgg3 (by first | exact ldv_own rfl rfl | exact ldv_pp rfl | exact ldv_old (by assumption) rfl | exact ldv_ptr (by assumption) rfl)) ?_
    refine stG rfl rfl rfl rfl rfl rfl (op_neq rfl rfl rfl) ?_
    refine st rfl rfl rfl (op_pickTO rfl rfl rfl) ?_
    refine st rfl rfl rfl (op_moveO rfl rfl) ?_
    refine AOps_split 10 rfl (fun h2 => ?_) (fun h2 => ?_)
    · rw [h2]; (try simp only [decide_eq_true_eq, decide_eq_false_iff_not, Bool.not_eq_true', Bool.not_eq_false', Int.not_lt, Int.not_le, Bool.not_true, Bool.not_false, Int.toNat_natCast, bne_iff_ne, beq_iff_eq, ne_eq, Decidable.not_not] at h2)
      refine stS rfl rfl rfl (.inl rfl) rfl rfl ?_
      refine stS rfl rfl rfl (.inl rfl) rfl rfl ?_
      refine stS rfl rfl rfl (.inl rfl) rfl rfl ?_
      refine stS rfl rfl rfl (.inl rfl) rfl rfl ?_
      refine stS rfl rfl rfl (.inl rfl) rfl rfl ?_
      refine stS rfl rfl rfl (.inr rfl) rfl rfl ?_
      refine stS rfl rfl rfl (.inr rfl) rfl rfl ?_
      refine stS rfl rfl rfl (.inr rfl) rfl rfl ?_
      refine stS rfl rfl rfl (.inl rfl) rfl rfl ?_
      refine st rfl rfl rfl (op_pickTO rfl rfl rfl) ?_
      refine st rfl rfl rfl (op_moveO rfl rfl) ?_
      refine stS rfl rfl rfl (.inl rfl) rfl rfl ?_
      refine stS rfl rfl rfl (.inl rfl) rfl rfl ?_
      refine stS rfl rfl rfl (.inl rfl) rfl rfl ?_
      refine stS rfl rfl rfl (.inl rfl) rfl rfl ?_
      refine stS rfl rfl rfl (.inr rfl) rfl rfl ?_
      refine stS rfl rfl rfl (.inr rfl) rfl rfl ?_
      refine stS rfl rfl rfl (.inr rfl) rfl rfl ?_
      refine stS rfl rfl rfl (.inl rfl) rfl rfl ?_
      refine st rfl rfl rfl (op_pickTO rfl rfl rfl) ?_
      refine AOps_nil ?_
      refine AWp_condT rfl ?_
      refine AWp_seq ?_
      -- region 2 value.go:28
      refine AWp_regL ?_
      refine st rfl rfl rfl (op_assignO rfl rfl) ?_
      refine AOps_nil ?_
      refine AWp_ret ?_
      (try simp only [blockQ, thenQ])
      refine ResQ_1 rfl hcl trivial (Ret_of ?_)
      simp_all [jbare, JNum.z]
    · rw [h2]; (try simp only [decide_eq_true_eq, decide_eq_false_iff_not, Bool.not_eq_true', Bool.not_eq_false', Int.not_lt, Int.not_le, Bool.not_true, Bool.not_false, Int.toNat_natCast, bne_iff_ne, beq_iff_eq, ne_eq, Decidable.not_not] at h2)
      refine stG rfl rfl rfl rfl rfl rfl (op_fieldAddrO (fo := 2) rfl Tryd.underlying28 rfl rfl Tryd.sizeOf23 (by decide) rfl trivial) ?_
      refine stG rfl rfl rfl rfl rfl rfl (op_loadK (cs := [_, _, _]) rfl Tryd.isAgg23 Tryd.sizeOf23 (by first | exact ldv_own rfl rfl | exact ldv_pp rfl | exact ldv_old (by assumption) rfl | exact ldv_ptr (by assumption) rfl)) ?_
      refine stG rfl rfl rfl rfl rfl rfl (op_buildP (cs := [_, _, _]) [(0, 1), (1, 1), (2, 1)] rfl Tryd.underlying23 Tryd.zeroValue23 ⟨rfl, Tryd.sizeOf4, ⟨rfl, Tryd.sizeOf9, ⟨rfl, Tryd.sizeOf3, trivial⟩⟩⟩ rfl rfl) ?_
      refine stG rfl rfl rfl rfl rfl rfl (op_neS rfl Tryd.underlying23 (by kernel_rfl) (by kernel_rfl) (.bool _ _ _ _ _ _ _ _ (by decide) rfl Tryd.underlying4 (.str _ _ _ _ _ _ _ _ (by decide) rfl Tryd.underlying9 (.int _ _ _ _ _ _ _ _ _ _ (by decide) rfl Tryd.underlying3 (.nil _)))) rfl rfl) ?_
      refine stG rfl rfl rfl rfl rfl rfl (op_moveO rfl rfl) ?_
      refine AOps_split 15 rfl (fun h3 => ?_) (fun h3 => ?_)
      · rw [h3]; (try simp only [decide_eq_true_eq, decide_eq_false_iff_not, Bool.not_eq_true', Bool.not_eq_false', Int.not_lt, Int.not_le, Bool.not_true, Bool.not_false, Int.toNat_natCast, bne_iff_ne, beq_iff_eq, ne_eq, Decidable.not_not] at h3)
        refine stG rfl rfl rfl rfl rfl rfl (op_fieldAddrO (fo := 0) rfl Tryd.underlying28 rfl rfl Tryd.sizeOf3 (by decide) rfl trivial) ?_
        refine stG rfl rfl rfl rfl rfl rfl (op_load1 rfl Tryd.isAgg3 (by first | exact ldv_own rfl rfl | exact ldv_pp rfl | exact ldv_old (by assumption) rfl | exact ldv_ptr (by assumption) rfl)) ?_
        refine stG rfl rfl rfl rfl rfl rfl (op_neq rfl rfl rfl) ?_
        refine stG rfl rfl rfl rfl rfl rfl (op_pickTO rfl rfl rfl) ?_
        refine st rfl rfl rfl (op_pickFO rfl rfl rfl) ?_
        refine st rfl rfl rfl (op_moveO rfl rfl) ?_
        refine AOps_split 21 rfl (fun h4 => ?_) (fun h4 => ?_)
        · rw [h4]; (try simp only [decide_eq_true_eq, decide_eq_false_iff_not, Bool.not_eq_true', Bool.not_eq_false', Int.not_lt, Int.not_le, Bool.not_true, Bool.not_false, Int.toNat_natCast, bne_iff_ne, beq_iff_eq, ne_eq, Decidable.not_not] at h4)
          refine stS rfl rfl rfl (.inl rfl) rfl rfl ?_
          refine stS rfl rfl rfl (.inl rfl) rfl rfl ?_
          refine stS rfl rfl rfl (.inl rfl) rfl rfl ?_
          refine stS rfl rfl rfl (.inl rfl) rfl rfl ?_
          refine stS rfl rfl rfl (.inr rfl) rfl rfl ?_
          refine stS rfl rfl rfl (.inr rfl) rfl rfl ?_
          refine stS rfl rfl rfl (.inr rfl) rfl rfl ?_
          refine stS rfl rfl rfl (.inl rfl) rfl rfl ?_
          refine st rfl rfl rfl (op_pickTO rfl rfl rfl) ?_
          refine AOps_nil ?_
          refine AWp_condT rfl ?_
          refine AWp_seq ?_
          -- region 2 value.go:28
          refine AWp_regL ?_
          refine st rfl rfl rfl (op_assignO rfl rfl) ?_
          refine AOps_nil ?_
          refine AWp_ret ?_
          (try simp only [blockQ, thenQ])
          refine ResQ_1 rfl hcl trivial (Ret_of ?_)
          simp_all [jbare, JNum.z]
        · rw [h4]; (try simp only [decide_eq_true_eq, decide_eq_false_iff_not, Bool.not_eq_true', Bool.not_eq_false', Int.not_lt, Int.not_le, Bool.not_true, Bool.not_false, Int.toNat_natCast, bne_iff_ne, beq_iff_eq, ne_eq, Decidable.not_not] at h4)
          refine stG rfl rfl rfl rfl rfl rfl (op_fieldAddrO (fo := 5) rfl Tryd.underlying28 rfl rfl Tryd.sizeOf9 (by decide) rfl trivial) ?_
          refine stG rfl rfl rfl rfl rfl rfl (op_load1 rfl Tryd.isAgg9 (by first | exact ldv_own rfl rfl | exact ldv_pp rfl | exact ldv_old (by assumption) rfl | exact ldv_ptr (by assumption) rfl)) ?_
          refine stG rfl rfl rfl rfl rfl rfl (op_sneq rfl rfl rfl) ?_
          refine stG rfl rfl rfl rfl rfl rfl (op_moveO rfl rfl) ?_
          refine AOps_split 25 rfl (fun h5 => ?_) (fun h5 => ?_)
          · rw [h5]; (try simp only [decide_eq_true_eq, decide_eq_false_iff_not, Bool.not_eq_true', Bool.not_eq_false', Int.not_lt, Int.not_le, Bool.not_true, Bool.not_false, Int.toNat_natCast, bne_iff_ne, beq_iff_eq, ne_eq, Decidable.not_not] at h5)
            refine stG rfl rfl rfl rfl rfl rfl (op_fieldAddrO (fo := 0) rfl Tryd.underlying28 rfl rfl Tryd.sizeOf3 (by decide) rfl trivial) ?_
            refine stG rfl rfl rfl rfl rfl rfl (op_load1 rfl Tryd.isAgg3 (by first | exact ldv_own rfl rfl | exact ldv_pp rfl | exact ldv_old (by assumption) rfl | exact ldv_ptr (by assumption) rfl)) ?_
            refine stG rfl rfl rfl rfl rfl rfl (op_neq rfl rfl rfl) ?_
            refine stG rfl rfl rfl rfl rfl rfl (op_pickTO rfl rfl rfl) ?_
            refine st rfl rfl rfl (op_pickFO rfl rfl rfl) ?_
            refine AOps_nil ?_
            refine AWp_cond rfl (fun h6 => ?_) (fun h6 => ?_)
            · (try rw [h6]); (try simp only [decide_eq_true_eq, decide_eq_false_iff_not, Bool.not_eq_true', Bool.not_eq_false', Int.not_lt, Int.not_le, Bool.not_true, Bool.not_false, Int.toNat_natCast, bne_iff_ne, beq_iff_eq, ne_eq, Decidable.not_not] at h6)
              refine AWp_seq ?_
              -- region 2 value.go:28
              refine AWp_regL ?_
              refine st rfl rfl rfl (op_assignO rfl rfl) ?_
              refine AOps_nil ?_
              refine AWp_ret ?_
              (try simp only [blockQ, thenQ])
              refine ResQ_1 rfl hcl trivial (Ret_of ?_)
              simp_all [jbare, JNum.z]
            · (try rw [h6]); (try simp only [decide_eq_true_eq, decide_eq_false_iff_not, Bool.not_eq_true', Bool.not_eq_false', Int.not_lt, Int.not_le, Bool.not_true, Bool.not_false, Int.toNat_natCast, bne_iff_ne, beq_iff_eq, ne_eq, Decidable.not_not] at h6)
              refine AWp_skip ?_
              refine AWp_seq ?_
              -- region 3 value.go:30
              refine AWp_regL ?_
              refine st rfl rfl rfl (op_fieldAddrO (fo := 6) rfl Tryd.underlying28 rfl rfl Tryd.sizeOf25 (by decide) rfl trivial) ?_
              refine st rfl rfl rfl (op_load1 rfl Tryd.isAgg25 (by first | exact ldv_own rfl rfl | exact ldv_pp rfl | exact ldv_old (by assumption) rfl | exact ldv_ptr (by assumption) rfl)) ?_
              refine st rfl rfl rfl (op_lenS rfl rfl Tryd.underlying25 rfl rfl trivial) ?_
              refine st rfl rfl rfl (op_eql rfl rfl rfl) ?_
              refine st rfl rfl rfl (op_moveO rfl rfl) ?_
              refine AOps_split 35 rfl (fun h7 => ?_) (fun h7 => ?_)
              · rw [h7]; (try simp only [decide_eq_true_eq, decide_eq_false_iff_not, Bool.not_eq_true', Bool.not_eq_false', Int.not_lt, Int.not_le, Bool.not_true, Bool.not_false, Int.toNat_natCast, bne_iff_ne, beq_iff_eq, ne_eq, Decidable.not_not] at h7)
                refine stS rfl rfl rfl (.inl rfl) rfl rfl ?_
                refine stS rfl rfl rfl (.inl rfl) rfl rfl ?_
                refine stS rfl rfl rfl (.inl rfl) rfl rfl ?_
                refine st rfl rfl rfl (op_pickTO rfl rfl rfl) ?_
                refine st rfl rfl rfl (op_moveO rfl rfl) ?_
                refine stG rfl rfl rfl rfl rfl rfl (op_fieldAddrO (fo := 7) rfl Tryd.underlying28 rfl rfl Tryd.sizeOf26 (by decide) rfl trivial) ?_
                refine stG rfl rfl rfl rfl rfl rfl (op_load1 rfl Tryd.isAgg26 (by first | exact ldv_own rfl rfl | exact ldv_pp rfl | exact ldv_old (by assumption) rfl | exact ldv_ptr (by assumption) rfl)) ?_
                refine stG rfl rfl rfl rfl rfl rfl (op_lenS rfl rfl Tryd.underlying26 rfl rfl trivial) ?_
                refine stG rfl rfl rfl rfl rfl rfl (op_eql rfl rfl rfl) ?_
                refine stG rfl rfl rfl rfl rfl rfl (op_moveO rfl rfl) ?_
                refine AOps_split 45 rfl (fun h8 => ?_) (fun h8 => ?_)
                · rw [h8]; (try simp only [decide_eq_true_eq, decide_eq_false_iff_not, Bool.not_eq_true', Bool.not_eq_false', Int.not_lt, Int.not_le, Bool.not_true, Bool.not_false, Int.toNat_natCast, bne_iff_ne, beq_iff_eq, ne_eq, Decidable.not_not] at h8)
                  refine stS rfl rfl rfl (.inl rfl) rfl rfl ?_
                  refine stS rfl rfl rfl (.inl rfl) rfl rfl ?_
                  refine stS rfl rfl rfl (.inl rfl) rfl rfl ?_
                  refine stG rfl rfl rfl rfl rfl rfl (op_pickTO rfl rfl rfl) ?_
                  refine st rfl rfl rfl (op_pickTO rfl rfl rfl) ?_
                  refine st rfl rfl rfl (op_assignO rfl rfl) ?_
                  refine AOps_nil ?_
                  refine AWp_ret ?_
                  (try simp only [blockQ, thenQ])
                  refine ResQ_1 rfl hcl trivial (Ret_of ?_)
                  simp_all [jbare, JNum.z]
                · rw [h8]; (try simp only [decide_eq_true_eq, decide_eq_false_iff_not, Bool.not_eq_true', Bool.not_eq_false', Int.not_lt, Int.not_le, Bool.not_true, Bool.not_false, Int.toNat_natCast, bne_iff_ne, beq_iff_eq, ne_eq, Decidable.not_not] at h8)
                  refine stG rfl rfl rfl rfl rfl rfl (op_fieldAddrO (fo := 0) rfl Tryd.underlying28 rfl rfl Tryd.sizeOf3 (by decide) rfl trivial) ?_
                  refine stG rfl rfl rfl rfl rfl rfl (op_load1 rfl Tryd.isAgg3 (by first | exact ldv_own rfl rfl | exact ldv_pp rfl | exact ldv_old (by assumption) rfl | exact ldv_ptr (by assumption) rfl)) ?_
                  refine stG rfl rfl rfl rfl rfl rfl (op_eql rfl rfl rfl) ?_
                  refine stG rfl rfl rfl rfl rfl rfl (op_pickFO rfl rfl rfl) ?_
                  refine st rfl rfl rfl (op_pickTO rfl rfl rfl) ?_
                  refine st rfl rfl rfl (op_assignO rfl rfl) ?_
                  refine AOps_nil ?_
                  refine AWp_ret ?_
                  (try simp only [blockQ, thenQ])
                  refine ResQ_1 rfl hcl trivial (Ret_of ?_)
                  simp_all [jbare, JNum.z]
              · rw [h7]; (try simp only [decide_eq_true_eq, decide_eq_false_iff_not, Bool.not_eq_true', Bool.not_eq_false', Int.not_lt, Int.not_le, Bool.not_true, Bool.not_false, Int.toNat_natCast, bne_iff_ne, beq_iff_eq, ne_eq, Decidable.not_not] at h7)
                refine stG rfl rfl rfl rfl rfl rfl (op_fieldAddrO (fo := 0) rfl Tryd.underlying28 rfl rfl Tryd.sizeOf3 (by decide) rfl trivial) ?_
                refine stG rfl rfl rfl rfl rfl rfl (op_load1 rfl Tryd.isAgg3 (by first | exact ldv_own rfl rfl | exact ldv_pp rfl | exact ldv_old (by assumption) rfl | exact ldv_ptr (by assumption) rfl)) ?_
                refine stG rfl rfl rfl rfl rfl rfl (op_eql rfl rfl rfl) ?_
                refine st rfl rfl rfl (op_pickFO rfl rfl rfl) ?_
                refine st rfl rfl rfl (op_moveO rfl rfl) ?_
                refine AOps_split 40 rfl (fun h9 => ?_) (fun h9 => ?_)
                · rw [h9]; (try simp only [decide_eq_true_eq, decide_eq_false_iff_not, Bool.not_eq_true', Bool.not_eq_false', Int.not_lt, Int.not_le, Bool.not_true, Bool.not_false, Int.toNat_natCast, bne_iff_ne, beq_iff_eq, ne_eq, Decidable.not_not] at h9)
                  refine stG rfl rfl rfl rfl rfl rfl (op_fieldAddrO (fo := 7) rfl Tryd.underlying28 rfl rfl Tryd.sizeOf26 (by decide) rfl trivial) ?_
                  refine stG rfl rfl rfl rfl rfl rfl (op_load1 rfl Tryd.isAgg26 (by first | exact ldv_own rfl rfl | exact ldv_pp rfl | exact ldv_old (by assumption) rfl | exact ldv_ptr (by assumption) rfl)) ?_
                  refine stG rfl rfl rfl rfl rfl rfl (op_lenS rfl rfl Tryd.underlying26 rfl rfl trivial) ?_
                  refine stG rfl rfl rfl rfl rfl rfl (op_eql rfl rfl rfl) ?_
                  refine stG rfl rfl rfl rfl rfl rfl (op_moveO rfl rfl) ?_
                  refine AOps_split 45 rfl (fun h10 => ?_) (fun h10 => ?_)
                  · rw [h10]; (try simp only [decide_eq_true_eq, decide_eq_false_iff_not, Bool.not_eq_true', Bool.not_eq_false', Int.not_lt, Int.not_le, Bool.not_true, Bool.not_false, Int.toNat_natCast, bne_iff_ne, beq_iff_eq, ne_eq, Decidable.not_not] at h10)
                    refine stS rfl rfl rfl (.inl rfl) rfl rfl ?_
                    refine stS rfl rfl rfl (.inl rfl) rfl rfl ?_
                    refine stS rfl rfl rfl (.inl rfl) rfl rfl ?_
                    refine stG rfl rfl rfl rfl rfl rfl (op_pickTO rfl rfl rfl) ?_
                    refine st rfl rfl rfl (op_pickTO rfl rfl rfl) ?_
                    refine st rfl rfl rfl (op_assignO rfl rfl) ?_
                    refine AOps_nil ?_
                    refine AWp_ret ?_
                    (try simp only [blockQ, thenQ])
                    refine ResQ_1 rfl hcl trivial (Ret_of ?_)
                    simp_all [jbare, JNum.z]
                  · rw [h10]; (try simp only [decide_eq_true_eq, decide_eq_false_iff_not, Bool.not_eq_true', Bool.not_eq_false', Int.not_lt, Int.not_le, Bool.not_true, Bool.not_false, Int.toNat_natCast, bne_iff_ne, beq_iff_eq, ne_eq, Decidable.not_not] at h10)
                    refine stG rfl rfl rfl rfl rfl rfl (op_fieldAddrO (fo := 0) rfl Tryd.underlying28 rfl rfl Tryd.sizeOf3 (by decide) rfl trivial) ?_
                    refine stG rfl rfl rfl rfl rfl rfl (op_load1 rfl Tryd.isAgg3 (by first | exact ldv_own rfl rfl | exact ldv_pp rfl | exact ldv_old (by assumption) rfl | exact ldv_ptr (by assumption) rfl)) ?_
                    refine stG rfl rfl rfl rfl rfl rfl (op_eql rfl rfl rfl) ?_
                    refine stG rfl rfl rfl rfl rfl rfl (op_pickFO rfl rfl rfl) ?_
                    refine st rfl rfl rfl (op_pickTO rfl rfl rfl) ?_
                    refine st rfl rfl rfl (op_assignO rfl rfl) ?_
                    refine AOps_nil ?_
                    refine AWp_ret ?_
                    (try simp only [blockQ, thenQ])
                    refine ResQ_1 rfl hcl trivial (Ret_of ?_)
                    simp_all [jbare, JNum.z]
                · rw [h9]; (try simp only [decide_eq_true_eq, decide_eq_false_iff_not, Bool.not_eq_true', Bool.not_eq_false', Int.not_lt, Int.not_le, Bool.not_true, Bool.not_false, Int.toNat_natCast, bne_iff_ne, beq_iff_eq, ne_eq, Decidable.not_not] at h9)
                  refine stS rfl rfl rfl (.inl rfl) rfl rfl ?_
                  refine stS rfl rfl rfl (.inl rfl) rfl rfl ?_
                  refine stS rfl rfl rfl (.inl rfl) rfl rfl ?_
                  refine stS rfl rfl rfl (.inl rfl) rfl rfl ?_
                  refine stS rfl rfl rfl (.inl rfl) rfl rfl ?_
                  refine stS rfl rfl rfl (.inr rfl) rfl rfl ?_
                  refine stS rfl rfl rfl (.inr rfl) rfl rfl ?_
                  refine stS rfl rfl rfl (.inr rfl) rfl rfl ?_
                  refine stS rfl rfl rfl (.inl rfl) rfl rfl ?_
                  refine st rfl rfl rfl (op_pickFO rfl rfl rfl) ?_
                  refine st rfl rfl rfl (op_assignO rfl rfl) ?_
                  refine AOps_nil ?_
                  refine AWp_ret ?_
                  (try simp only [blockQ, thenQ])
                  refine ResQ_1 rfl hcl trivial (Ret_of ?_)
                  simp_all [jbare, JNum.z]
          · rw [h5]; (try simp only [decide_eq_true_eq, decide_eq_false_iff_not, Bool.not_eq_true', Bool.not_eq_false', Int.not_lt, Int.not_le, Bool.not_true, Bool.not_false, Int.toNat_natCast, bne_iff_ne, beq_iff_eq, ne_eq, Decidable.not_not] at h5)
            refine stS rfl rfl rfl (.inl rfl) rfl rfl ?_
            refine stS rfl rfl rfl (.inl rfl) rfl rfl ?_
            refine stS rfl rfl rfl (.inl rfl) rfl rfl ?_
            refine stG rfl rfl rfl rfl rfl rfl (op_pickFO rfl rfl rfl) ?_
            refine st rfl rfl rfl (op_pickFO rfl rfl rfl) ?_
            refine AOps_nil ?_
            refine AWp_condF rfl ?_
            refine AWp_skip ?_
            refine AWp_seq ?_
            -- region 3 value.go:30
            refine AWp_regL ?_
            refine st rfl rfl rfl (op_fieldAddrO (fo := 6) rfl Tryd.underlying28 rfl rfl Tryd.sizeOf25 (by decide) rfl trivial) ?_
            refine st rfl rfl rfl (op_load1 rfl Tryd.isAgg25 (by first | exact ldv_own rfl rfl | exact ldv_pp rfl | exact ldv_old (by assumption) rfl | exact ldv_ptr (by assumption) rfl)) ?_
            refine st rfl rfl rfl (op_lenS rfl rfl Tryd.underlying25 rfl rfl trivial) ?_
            refine st rfl rfl rfl (op_eql rfl rfl rfl) ?_
            refine st rfl rfl rfl (op_moveO rfl rfl) ?_
            refine AOps_split 35 rfl (fun h11 => ?_) (fun h11 => ?_)
            · rw [h11]; (try simp only [decide_eq_true_eq, decide_eq_false_iff_not, Bool.not_eq_true', Bool.not_eq_false', Int.not_lt, Int.not_le, Bool.not_true, Bool.not_false, Int.toNat_natCast, bne_iff_ne, beq_iff_eq, ne_eq, Decidable.not_not] at h11)
              refine stS rfl rfl rfl (.inl rfl) rfl rfl ?_
              refine stS rfl rfl rfl (.inl rfl) rfl rfl ?_
              refine stS rfl rfl rfl (.inl rfl) rfl rfl ?_
              refine st rfl rfl rfl (op_pickTO rfl rfl rfl) ?_
              refine st rfl rfl rfl (op_moveO rfl rfl) ?_
              refine stG rfl rfl rfl rfl rfl rfl (op_fieldAddrO (fo := 7) rfl Tryd.underlying28 rfl rfl Tryd.sizeOf26 (by decide) rfl trivial) ?_
              refine stG rfl rfl rfl rfl rfl rfl (op_load1 rfl Tryd.isAgg26 (by first | exact ldv_own rfl rfl | exact ldv_pp rfl | exact ldv_old (by assumption) rfl | exact ldv_ptr (by assumption) rfl)) ?_
              refine stG rfl rfl rfl rfl rfl rfl (op_lenS rfl rfl Tryd.underlying26 rfl rfl trivial) ?_
              refine stG rfl rfl rfl rfl rfl rfl (op_eql rfl rfl rfl) ?_
              refine stG rfl rfl rfl rfl rfl rfl (op_moveO rfl rfl) ?_
              refine AOps_split 45 rfl (fun h12 => ?_) (fun h12 => ?_)
              · rw [h12]; (try simp only [decide_eq_true_eq, decide_eq_false_iff_not, Bool.not_eq_true', Bool.not_eq_false', Int.not_lt, Int.not_le, Bool.not_true, Bool.not_false, Int.toNat_natCast, bne_iff_ne, beq_iff_eq, ne_eq, Decidable.not_not] at h12)
                refine stS rfl rfl rfl (.inl rfl) rfl rfl ?_
                refine stS rfl rfl rfl (.inl rfl) rfl rfl ?_
                refine stS rfl rfl rfl (.inl rfl) rfl rfl ?_
                refine stG rfl rfl rfl rfl rfl rfl (op_pickTO rfl rfl rfl) ?_
                refine st rfl rfl rfl (op_pickTO rfl rfl rfl) ?_
                refine st rfl rfl rfl (op_assignO rfl rfl) ?_
                refine AOps_nil ?_
                refine AWp_ret ?_
                (try simp only [blockQ, thenQ])
                refine ResQ_1 rfl hcl trivial (Ret_of ?_)
                simp_all [jbare, JNum.z]
              · rw [h12]; (try simp only [decide_eq_true_eq, decide_eq_false_iff_not, Bool.not_eq_true', Bool.not_eq_false', Int.not_lt, Int.not_le, Bool.not_true, Bool.not_false, Int.toNat_natCast, bne_iff_ne, beq_iff_eq, ne_eq, Decidable.not_not] at h12)
                refine stG rfl rfl rfl rfl rfl rfl (op_fieldAddrO (fo := 0) rfl Tryd.underlying28 rfl rfl Tryd.sizeOf3 (by decide) rfl trivial) ?_
                refine stG rfl rfl rfl rfl rfl rfl (op_load1 rfl Tryd.isAgg3 (by first | exact ldv_own rfl rfl | exact ldv_pp rfl | exact ldv_old (by assumption) rfl | exact ldv_ptr (by assumption) rfl)) ?_
                refine stG rfl rfl rfl rfl rfl rfl (op_eql rfl rfl rfl) ?_
                refine stG rfl rfl rfl rfl rfl rfl (op_pickFO rfl rfl rfl) ?_
                refine st rfl rfl rfl (op_pickTO rfl rfl rfl) ?_
                refine st rfl rfl rfl (op_assignO rfl rfl) ?_
                refine AOps_nil ?_
                refine AWp_ret ?_
                (try simp only [blockQ, thenQ])
                refine ResQ_1 rfl hcl trivial (Ret_of ?_)
                simp_all [jbare, JNum.z]
            · rw [h11]; (try simp only [decide_eq_true_eq, decide_eq_false_iff_not, Bool.not_eq_true', Bool.not_eq_false', Int.not_lt, Int.not_le, Bool.not_true, Bool.not_false, Int.toNat_natCast, bne_iff_ne, beq_iff_eq, ne_eq, Decidable.not_not] at h11)
              refine stG rfl rfl rfl rfl rfl rfl (op_fieldAddrO (fo := 0) rfl Tryd.underlying28 rfl rfl Tryd.sizeOf3 (by decide) rfl trivial) ?_
              refine stG rfl rfl rfl rfl rfl rfl (op_load1 rfl Tryd.isAgg3 (by first | exact ldv_own rfl rfl | exact ldv_pp rfl | exact ldv_old (by assumption) rfl | exact ldv_ptr (by assumption) rfl)) ?_
              refine stG rfl rfl rfl rfl rfl rfl (op_eql rfl rfl rfl) ?_
              refine st rfl rfl rfl (op_pickFO rfl rfl rfl) ?_
              refine st rfl rfl rfl (op_moveO rfl rfl) ?_
              refine AOps_split 40 rfl (fun h13 => ?_) (fun h13 => ?_)
              · rw [h13]; (try simp only [decide_eq_true_eq, decide_eq_false_iff_not, Bool.not_eq_true', Bool.not_eq_false', Int.not_lt, Int.not_le, Bool.not_true, Bool.not_false, Int.toNat_natCast, bne_iff_ne, beq_iff_eq, ne_eq, Decidable.not_not] at h13)
                refine stG rfl rfl rfl rfl rfl rfl (op_fieldAddrO (fo := 7) rfl Tryd.underlying28 rfl rfl Tryd.sizeOf26 (by decide) rfl trivial) ?_
                refine stG rfl rfl rfl rfl rfl rfl (op_load1 rfl Tryd.isAgg26 (by first | exact ldv_own rfl rfl | exact ldv_pp rfl | exact ldv_old (by assumption) rfl | exact ldv_ptr (by assumption) rfl)) ?_
                refine stG rfl rfl rfl rfl rfl rfl (op_lenS rfl rfl Tryd.underlying26 rfl rfl trivial) ?_
                refine stG rfl rfl rfl rfl rfl rfl (op_eql rfl rfl rfl) ?_
                refine stG rfl rfl rfl rfl rfl rfl (op_moveO rfl rfl) ?_
                refine AOps_split 45 rfl (fun h14 => ?_) (fun h14 => ?_)
                · rw [h14]; (try simp only [decide_eq_true_eq, decide_eq_false_iff_not, Bool.not_eq_true', Bool.not_eq_false', Int.not_lt, Int.not_le, Bool.not_true, Bool.not_false, Int.toNat_natCast, bne_iff_ne, beq_iff_eq, ne_eq, Decidable.not_not] at h14)
                  refine stS rfl rfl rfl (.inl rfl) rfl rfl ?_
                  refine stS rfl rfl rfl (.inl rfl) rfl rfl ?_
                  refine stS rfl rfl rfl (.inl rfl) rfl rfl ?_
                  refine stG rfl rfl rfl rfl rfl rfl (op_pickTO rfl rfl rfl) ?_
                  refine st rfl rfl rfl (op_pickTO rfl rfl rfl) ?_
                  refine st rfl rfl rfl (op_assignO rfl rfl) ?_
                  refine AOps_nil ?_
                  refine AWp_ret ?_
                  (try simp only [blockQ, thenQ])
                  refine ResQ_1 rfl hcl trivial (Ret_of ?_)
                  simp_all [jbare, JNum.z]
                · rw [h14]; (try simp only [decide_eq_true_eq, decide_eq_false_iff_not, Bool.not_eq_true', Bool.not_eq_false', Int.not_lt, Int.not_le, Bool.not_true, Bool.not_false, Int.toNat_natCast, bne_iff_ne, beq_iff_eq, ne_eq, Decidable.not_not] at h14)
                  refine stG rfl rfl rfl rfl rfl rfl (op_fieldAddrO (fo := 0) rfl Tryd.underlying28 rfl rfl Tryd.sizeOf3 (by decide) rfl trivial) ?_
                  refine stG rfl rfl rfl rfl rfl rfl (op_load1 rfl Tryd.isAgg3 (by first | exact ldv_own rfl rfl | exact ldv_pp rfl | exact ldv_old (by assumption) rfl | exact ldv_ptr (by assumption) rfl)) ?_
                  refine stG rfl rfl rfl rfl rfl rfl (op_eql rfl rfl rfl) ?_
                  refine stG rfl rfl rfl rfl rfl rfl (op_pickFO rfl rfl rfl) ?_
                  refine st rfl rfl rfl (op_pickTO rfl rfl rfl) ?_
                  refine st rfl rfl rfl (op_assignO rfl rfl) ?_
                  refine AOps_nil ?_
                  refine AWp_ret ?_
                  (try simp only [blockQ, thenQ])
                  refine ResQ_1 rfl hcl trivial (Ret_of ?_)
                  simp_all [jbare, JNum.z]
              · rw [h13]; (try simp only [decide_eq_true_eq, decide_eq_false_iff_not, Bool.not_eq_true', Bool.not_eq_false', Int.not_lt, Int.not_le, Bool.not_true, Bool.not_false, Int.toNat_natCast, bne_iff_ne, beq_iff_eq, ne_eq, Decidable.not_not] at h13)
                refine stS rfl rfl rfl (.inl rfl) rfl rfl ?_
                refine stS rfl rfl rfl (.inl rfl) rfl rfl ?_
                refine stS rfl rfl rfl (.inl rfl) rfl rfl ?_
                refine stS rfl rfl rfl (.inl rfl) rfl rfl ?_
                refine stS rfl rfl rfl (.inl rfl) rfl rfl ?_
                refine stS rfl rfl rfl (.inr rfl) rfl rfl ?_
                refine stS rfl rfl rfl (.inr rfl) rfl rfl ?_
                refine stS rfl rfl rfl (.inr rfl) rfl rfl ?_
                refine stS rfl rfl rfl (.inl rfl) rfl rfl ?_
                refine st rfl rfl rfl (op_pickFO rfl rfl rfl) ?_
                refine st rfl rfl rfl (op_assignO rfl rfl) ?_
                refine AOps_nil ?_
                refine AWp_ret ?_
                (try simp only [blockQ, thenQ])
                refine ResQ_1 rfl hcl trivial (Ret_of ?_)
                simp_all [jbare, JNum.z]
      · rw [h3]; (try simp only [decide_eq_true_eq, decide_eq_false_iff_not, Bool.not_eq_true', Bool.not_eq_false', Int.not_lt, Int.not_le, Bool.not_true, Bool.not_false, Int.toNat_natCast, bne_iff_ne, beq_iff_eq, ne_eq, Decidable.not_not] at h3)
        refine stS rfl rfl rfl (.inl rfl) rfl rfl ?_
        refine stS rfl rfl rfl (.inl rfl) rfl rfl ?_
        refine stS rfl rfl rfl (.inl rfl) rfl rfl ?_
        refine stG rfl rfl rfl rfl rfl rfl (op_pickFO rfl rfl rfl) ?_
        refine st rfl rfl rfl (op_pickFO rfl rfl rfl) ?_
        refine st rfl rfl rfl (op_moveO rfl rfl) ?_
        refine stG rfl rfl rfl rfl rfl rfl (op_fieldAddrO (fo := 5) rfl Tryd.underlying28 rfl rfl Tryd.sizeOf9 (by decide) rfl trivial) ?_
        refine stG rfl rfl rfl rfl rfl rfl (op_load1 rfl Tryd.isAgg9 (by first | exact ldv_own rfl rfl | exact ldv_pp rfl | exact ldv_old (by assumption) rfl | exact ldv_ptr (by assumption) rfl)) ?_
        refine stG rfl rfl rfl rfl rfl rfl (op_sneq rfl rfl rfl) ?_
        refine stG rfl rfl rfl rfl rfl rfl (op_moveO rfl rfl) ?_
        refine AOps_split 25 rfl (fun h15 => ?_) (fun h15 => ?_)
        · rw [h15]; (try simp only [decide_eq_true_eq, decide_eq_false_iff_not, Bool.not_eq_true', Bool.not_eq_false', Int.not_lt, Int.not_le, Bool.not_true, Bool.not_false, Int.toNat_natCast, bne_iff_ne, beq_iff_eq, ne_eq, Decidable.not_not] at h15)
          refine stG rfl rfl rfl rfl rfl rfl (op_fieldAddrO (fo := 0) rfl Tryd.underlying28 rfl rfl Tryd.sizeOf3 (by decide) rfl trivial) ?_
          refine stG rfl rfl rfl rfl rfl rfl (op_load1 rfl Tryd.isAgg3 (by first | exact ldv_own rfl rfl | exact ldv_pp rfl | exact ldv_old (by assumption) rfl | exact ldv_ptr (by assumption) rfl)) ?_
          refine stG rfl rfl rfl rfl rfl rfl (op_neq rfl rfl rfl) ?_
          refine stG rfl rfl rfl rfl rfl rfl (op_pickTO rfl rfl rfl) ?_
          refine st rfl rfl rfl (op_pickFO rfl rfl rfl) ?_
          refine AOps_nil ?_
          refine AWp_cond rfl (fun h16 => ?_) (fun h16 => ?_)
          · (try rw [h16]); (try simp only [decide_eq_true_eq, decide_eq_false_iff_not, Bool.not_eq_true', Bool.not_eq_false', Int.not_lt, Int.not_le, Bool.not_true, Bool.not_false, Int.toNat_natCast, bne_iff_ne, beq_iff_eq, ne_eq, Decidable.not_not] at h16)
            refine AWp_seq ?_
            -- region 2 value.go:28
            refine AWp_regL ?_
            refine st rfl rfl rfl (op_assignO rfl rfl) ?_
            refine AOps_nil ?_
            refine AWp_ret ?_
            (try simp only [blockQ, thenQ])
            refine ResQ_1 rfl hcl trivial (Ret_of ?_)
            simp_all [jbare, JNum.z]
          · (try rw [h16]); (try simp only [decide_eq_true_eq, decide_eq_false_iff_not, Bool.not_eq_true', Bool.not_eq_false', Int.not_lt, Int.not_le, Bool.not_true, Bool.not_false, Int.toNat_natCast, bne_iff_ne, beq_iff_eq, ne_eq, Decidable.not_not] at h16)
            refine AWp_skip ?_
            refine AWp_seq ?_
            -- region 3 value.go:30
            refine AWp_regL ?_
            refine st rfl rfl rfl (op_fieldAddrO (fo := 6) rfl Tryd.underlying28 rfl rfl Tryd.sizeOf25 (by decide) rfl trivial) ?_
            refine st rfl rfl rfl (op_load1 rfl Tryd.isAgg25 (by first | exact ldv_own rfl rfl | exact ldv_pp rfl | exact ldv_old (by assumption) rfl | exact ldv_ptr (by assumption) rfl)) ?_
            refine st rfl rfl rfl (op_lenS rfl rfl Tryd.underlying25 rfl rfl trivial) ?_
            refine st rfl rfl rfl (op_eql rfl rfl rfl) ?_
            refine st rfl rfl rfl (op_moveO rfl rfl) ?_
            refine AOps_split 35 rfl (fun h17 => ?_) (fun h17 => ?_)
            · rw [h17]; (try simp only [decide_eq_true_eq, decide_eq_false_iff_not, Bool.not_eq_true', Bool.not_eq_false', Int.not_lt, Int.not_le, Bool.not_true, Bool.not_false, Int.toNat_natCast, bne_iff_ne, beq_iff_eq, ne_eq, Decidable.not_not] at h17)
              refine stS rfl rfl rfl (.inl rfl) rfl rfl ?_
              refine stS rfl rfl rfl (.inl rfl) rfl rfl ?_
              refine stS rfl rfl rfl (.inl rfl) rfl rfl ?_
              refine st rfl rfl rfl (op_pickTO rfl rfl rfl) ?_
              refine st rfl rfl rfl (op_moveO rfl rfl) ?_
              refine stG rfl rfl rfl rfl rfl rfl (op_fieldAddrO (fo := 7) rfl Tryd.underlying28 rfl rfl Tryd.sizeOf26 (by decide) rfl trivial) ?_
              refine stG rfl rfl rfl rfl rfl rfl (op_load1 rfl Tryd.isAgg26 (by first | exact ldv_own rfl rfl | exact ldv_pp rfl | exact ldv_old (by assumption) rfl | exact ldv_ptr (by assumption) rfl)) ?_
              refine stG rfl rfl rfl rfl rfl rfl (op_lenS rfl rfl Tryd.underlying26 rfl rfl trivial) ?_
              refine stG rfl rfl rfl rfl rfl rfl (op_eql rfl rfl rfl) ?_
              refine stG rfl rfl rfl rfl rfl rfl (op_moveO rfl rfl) ?_
              refine AOps_split 45 rfl (fun h18 => ?_) (fun h18 => ?_)
              · rw [h18]; (try simp only [decide_eq_true_eq, decide_eq_false_iff_not, Bool.not_eq_true', Bool.not_eq_false', Int.not_lt, Int.not_le, Bool.not_true, Bool.not_false, Int.toNat_natCast, bne_iff_ne, beq_iff_eq, ne_eq, Decidable.not_not] at h18)
                refine stS rfl rfl rfl (.inl rfl) rfl rfl ?_
                refine stS rfl rfl rfl (.inl rfl) rfl rfl ?_
                refine stS rfl rfl rfl (.inl rfl) rfl rfl ?_
                refine stG rfl rfl rfl rfl rfl rfl (op_pickTO rfl rfl rfl) ?_
                refine st rfl rfl rfl (op_pickTO rfl rfl rfl) ?_
                refine st rfl rfl rfl (op_assignO rfl rfl) ?_
                refine AOps_nil ?_
                refine AWp_ret ?_
                (try simp only [blockQ, thenQ])
                refine ResQ_1 rfl hcl trivial (Ret_of ?_)
                simp_all [jbare, JNum.z]
              · rw [h18]; (try simp only [decide_eq_true_eq, decide_eq_false_iff_not, Bool.not_eq_true', Bool.not_eq_false', Int.not_lt, Int.not_le, Bool.not_true, Bool.not_false, Int.toNat_natCast, bne_iff_ne, beq_iff_eq, ne_eq, Decidable.not_not] at h18)
                refine stG rfl rfl rfl rfl rfl rfl (op_fieldAddrO (fo := 0) rfl Tryd.underlying28 rfl rfl Tryd.sizeOf3 (by decide) rfl trivial) ?_
                refine stG rfl rfl rfl rfl rfl rfl (op_load1 rfl Tryd.isAgg3 (by first | exact ldv_own rfl rfl | exact ldv_pp rfl | exact ldv_old (by assumption) rfl | exact ldv_ptr (by assumption) rfl)) ?_
                refine stG rfl rfl rfl rfl rfl rfl (op_eql rfl rfl rfl) ?_
                refine stG rfl rfl rfl rfl rfl rfl (op_pickFO rfl rfl rfl) ?_
                refine st rfl rfl rfl (op_pickTO rfl rfl rfl) ?_
                refine st rfl rfl rfl (op_assignO rfl rfl) ?_
                refine AOps_nil ?_
                refine AWp_ret ?_
                (try simp only [blockQ, thenQ])
                refine ResQ_1 rfl hcl trivial (Ret_of ?_)
                simp_all [jbare, JNum.z]
            · rw [h17]; (try simp only [decide_eq_true_eq, decide_eq_false_iff_not, Bool.not_eq_true', Bool.not_eq_false', Int.not_lt, Int.not_le, Bool.not_true, Bool.not_false, Int.toNat_natCast, bne_iff_ne, beq_iff_eq, ne_eq, Decidable.not_not] at h17)
              refine stG rfl rfl rfl rfl rfl rfl (op_fieldAddrO (fo := 0) rfl Tryd.underlying28 rfl rfl Tryd.sizeOf3 (by decide) rfl trivial) ?_
              refine stG rfl rfl rfl rfl rfl rfl (op_load1 rfl Tryd.isAgg3 (by first | exact ldv_own rfl rfl | exact ldv_pp rfl | exact ldv_old (by assumption) rfl | exact ldv_ptr (by assumption) rfl)) ?_
              refine stG rfl rfl rfl rfl rfl rfl (op_eql rfl rfl rfl) ?_
              refine st rfl rfl rfl (op_pickFO rfl rfl rfl) ?_
              refine st rfl rfl rfl (op_moveO rfl rfl) ?_
              refine AOps_split 40 rfl (fun h19 => ?_) (fun h19 => ?_)
              · rw [h19]; (try simp only [decide_eq_true_eq, decide_eq_false_iff_not, Bool.not_eq_true', Bool.not_eq_false', Int.not_lt, Int.not_le, Bool.not_true, Bool.not_false, Int.toNat_natCast, bne_iff_ne, beq_iff_eq, ne_eq, Decidable.not_not] at h19)
                refine stG rfl rfl rfl rfl rfl rfl (op_fieldAddrO (fo := 7) rfl Tryd.underlying28 rfl rfl Tryd.sizeOf26 (by decide) rfl trivial) ?_
                refine stG rfl rfl rfl rfl rfl rfl (op_load1 rfl Tryd.isAgg26 (by first | exact ldv_own rfl rfl | exact ldv_pp rfl | exact ldv_old (by assumption) rfl | exact ldv_ptr (by assumption) rfl)) ?_
                refine stG rfl rfl rfl rfl rfl rfl (op_lenS rfl rfl Tryd.underlying26 rfl rfl trivial) ?_
                refine stG rfl rfl rfl rfl rfl rfl (op_eql rfl rfl rfl) ?_
                refine stG rfl rfl rfl rfl rfl rfl (op_moveO rfl rfl) ?_
                refine AOps_split 45 rfl (fun h20 => ?_) (fun h20 => ?_)
                · rw [h20]; (try simp only [decide_eq_true_eq, decide_eq_false_iff_not, Bool.not_eq_true', Bool.not_eq_false', Int.not_lt, Int.not_le, Bool.not_true, Bool.not_false, Int.toNat_natCast, bne_iff_ne, beq_iff_eq, ne_eq, Decidable.not_not] at h20)
                  refine stS rfl rfl rfl (.inl rfl) rfl rfl ?_
                  refine stS rfl rfl rfl (.inl rfl) rfl rfl ?_
                  refine stS rfl rfl rfl (.inl rfl) rfl rfl ?_
                  refine stG rfl rfl rfl rfl rfl rfl (op_pickTO rfl rfl rfl) ?_
                  refine st rfl rfl rfl (op_pickTO rfl rfl rfl) ?_
                  refine st rfl rfl rfl (op_assignO rfl rfl) ?_
                  refine AOps_nil ?_
                  refine AWp_ret ?_
                  (try simp only [blockQ, thenQ])
                  refine ResQ_1 rfl hcl trivial (Ret_of ?_)
                  simp_all [jbare, JNum.z]
                · rw [h20]; (try simp only [decide_eq_true_eq, decide_eq_false_iff_not, Bool.not_eq_true', Bool.not_eq_false', Int.not_lt, Int.not_le, Bool.not_true, Bool.not_false, Int.toNat_natCast, bne_iff_ne, beq_iff_eq, ne_eq, Decidable.not_not] at h20)
                  refine stG rfl rfl rfl rfl rfl rfl (op_fieldAddrO (fo := 0) rfl Tryd.underlying28 rfl rfl Tryd.sizeOf3 (by decide) rfl trivial) ?_
                  refine stG rfl rfl rfl rfl rfl rfl (op_load1 rfl Tryd.isAgg3 (by first | exact ldv_own rfl rfl | exact ldv_pp rfl | exact ldv_old (by assumption) rfl | exact ldv_ptr (by assumption) rfl)) ?_
                  refine stG rfl rfl rfl rfl rfl rfl (op_eql rfl rfl rfl) ?_
                  refine stG rfl rfl rfl rfl rfl rfl (op_pickFO rfl rfl rfl) ?_
                  refine st rfl rfl rfl (op_pickTO rfl rfl rfl) ?_
                  refine st rfl rfl rfl (op_assignO rfl rfl) ?_
                  refine AOps_nil ?_
                  refine AWp_ret ?_
                  (try simp only [blockQ, thenQ])
                  refine ResQ_1 rfl hcl trivial (Ret_of ?_)
                  simp_all [jbare, JNum.z]
              · rw [h19]; (try simp only [decide_eq_true_eq, decide_eq_false_iff_not, Bool.not_eq_true', Bool.not_eq_false', Int.not_lt, Int.not_le, Bool.not_true, Bool.not_false, Int.toNat_natCast, bne_iff_ne, beq_iff_eq, ne_eq, Decidable.not_not] at h19)
                refine stS rfl rfl rfl (.inl rfl) rfl rfl ?_
                refine stS rfl rfl rfl (.inl rfl) rfl rfl ?_
                refine stS rfl rfl rfl (.inl rfl) rfl rfl ?_
                refine stS rfl rfl rfl (.inl rfl) rfl rfl ?_
                refine stS rfl rfl rfl (.inl rfl) rfl rfl ?_
                refine stS rfl rfl rfl (.inr rfl) rfl rfl ?_
                refine stS rfl rfl rfl (.inr rfl) rfl rfl ?_
                refine stS rfl rfl rfl (.inr rfl) rfl rfl ?_
                refine stS rfl rfl rfl (.inl rfl) rfl rfl ?_
                refine st rfl rfl rfl (op_pickFO rfl rfl rfl) ?_
                refine st rfl rfl rfl (op_assignO rfl rfl) ?_
                refine AOps_nil ?_
                refine AWp_ret ?_
                (try simp only [blockQ, thenQ])
                refine ResQ_1 rfl hcl trivial (Ret_of ?_)
                simp_all [jbare, JNum.z]
        · rw [h15]; (try simp only [decide_eq_true_eq, decide_eq_false_iff_not, Bool.not_eq_true', Bool.not_eq_false', Int.not_lt, Int.not_le, Bool.not_true, Bool.not_false, Int.toNat_natCast, bne_iff_ne, beq_iff_eq, ne_eq, Decidable.not_not] at h15)
          refine stS rfl rfl rfl (.inl rfl) rfl rfl ?_
          refine stS rfl rfl rfl (.inl rfl) rfl rfl ?_
          refine stS rfl rfl rfl (.inl rfl) rfl rfl ?_
          refine stG rfl rfl rfl rfl rfl rfl (op_pickFO rfl rfl rfl) ?_
          refine st rfl rfl rfl (op_pickFO rfl rfl rfl) ?_
          refine AOps_nil ?_
          refine AWp_condF rfl ?_
          refine AWp_skip ?_
          refine AWp_seq ?_
          -- region 3 value.go:30
          refine AWp_regL ?_
          refine st rfl rfl rfl (op_fieldAddrO (fo := 6) rfl Tryd.underlying28 rfl rfl Tryd.sizeOf25 (by decide) rfl trivial) ?_
          refine st rfl rfl rfl (op_load1 rfl Tryd.isAgg25 (by first | exact ldv_own rfl rfl | exact ldv_pp rfl | exact ldv_old (by assumption) rfl | exact ldv_ptr (by assumption) rfl)) ?_
          refine st rfl rfl rfl (op_lenS rfl rfl Tryd.underlying25 rfl rfl trivial) ?_
          refine st rfl rfl rfl (op_eql rfl rfl rfl) ?_
          refine st rfl rfl rfl (op_moveO rfl rfl) ?_
          refine AOps_split 35 rfl (fun h21 => ?_) (fun h21 => ?_)
          · rw [h21]; (try simp only [decide_eq_true_eq, decide_eq_false_iff_not, Bool.not_eq_true', Bool.not_eq_false', Int.not_lt, Int.not_le, Bool.not_true, Bool.not_false, Int.toNat_natCast, bne_iff_ne, beq_iff_eq, ne_eq, Decidable.not_not] at h21)
            refine stS rfl rfl rfl (.inl rfl) rfl rfl ?_
            refine stS rfl rfl rfl (.inl rfl) rfl rfl ?_
            refine stS rfl rfl rfl (.inl rfl) rfl rfl ?_
            refine st rfl rfl rfl (op_pickTO rfl rfl rfl) ?_
            refine st rfl rfl rfl (op_moveO rfl rfl) ?_
            refine stG rfl rfl rfl rfl rfl rfl (op_fieldAddrO (fo := 7) rfl Tryd.underlying28 rfl rfl Tryd.sizeOf26 (by decide) rfl trivial) ?_
            refine stG rfl rfl rfl rfl rfl rfl (op_load1 rfl Tryd.isAgg26 (by first | exact ldv_own rfl rfl | exact ldv_pp rfl | exact ldv_old (by assumption) rfl | exact ldv_ptr (by assumption) rfl)) ?_
            refine stG rfl rfl rfl rfl rfl rfl (op_lenS rfl rfl Tryd.underlying26 rfl rfl trivial) ?_
            refine stG rfl rfl rfl rfl rfl rfl (op_eql rfl rfl rfl) ?_
            refine stG rfl rfl rfl rfl rfl rfl (op_moveO rfl rfl) ?_
            refine AOps_split 45 rfl (fun h22 => ?_) (fun h22 => ?_)
            · rw [h22]; (try simp only [decide_eq_true_eq, decide_eq_false_iff_not, Bool.not_eq_true', Bool.not_eq_false', Int.not_lt, Int.not_le, Bool.not_true, Bool.not_false, Int.toNat_natCast, bne_iff_ne, beq_iff_eq, ne_eq, Decidable.not_not] at h22)
              refine stS rfl rfl rfl (.inl rfl) rfl rfl ?_
              refine stS rfl rfl rfl (.inl rfl) rfl rfl ?_
              refine stS rfl rfl rfl (.inl rfl) rfl rfl ?_
              refine stG rfl rfl rfl rfl rfl rfl (op_pickTO rfl rfl rfl) ?_
              refine st rfl rfl rfl (op_pickTO rfl rfl rfl) ?_
              refine st rfl rfl rfl (op_assignO rfl rfl) ?_
              refine AOps_nil ?_
              refine AWp_ret ?_
              (try simp only [blockQ, thenQ])
              refine ResQ_1 rfl hcl trivial (Ret_of ?_)
              simp_all [jbare, JNum.z]
            · rw [h22]; (try simp only [decide_eq_true_eq, decide_eq_false_iff_not, Bool.not_eq_true', Bool.not_eq_false', Int.not_lt, Int.not_le, Bool.not_true, Bool.not_false, Int.toNat_natCast, bne_iff_ne, beq_iff_eq, ne_eq, Decidable.not_not] at h22)
              refine stG rfl rfl rfl rfl rfl rfl (op_fieldAddrO (fo := 0) rfl Tryd.underlying28 rfl rfl Tryd.sizeOf3 (by decide) rfl trivial) ?_
              refine stG rfl rfl rfl rfl rfl rfl (op_load1 rfl Tryd.isAgg3 (by first | exact ldv_own rfl rfl | exact ldv_pp rfl | exact ldv_old (by assumption) rfl | exact ldv_ptr (by assumption) rfl)) ?_
              refine stG rfl rfl rfl rfl rfl rfl (op_eql rfl rfl rfl) ?_
              refine stG rfl rfl rfl rfl rfl rfl (op_pickFO rfl rfl rfl) ?_
              refine st rfl rfl rfl (op_pickTO rfl rfl rfl) ?_
              refine st rfl rfl rfl (op_assignO rfl rfl) ?_
              refine AOps_nil ?_
              refine AWp_ret ?_
              (try simp only [blockQ, thenQ])
              refine ResQ_1 rfl hcl trivial (Ret_of ?_)
              simp_all [jbare, JNum.z]
          · rw [h21]; (try simp only [decide_eq_true_eq, decide_eq_false_iff_not, Bool.not_eq_true', Bool.not_eq_false', Int.not_lt, Int.not_le, Bool.not_true, Bool.not_false, Int.toNat_natCast, bne_iff_ne, beq_iff_eq, ne_eq, Decidable.not_not] at h21)
            refine stG rfl rfl rfl rfl rfl rfl (op_fieldAddrO (fo := 0) rfl Tryd.underlying28 rfl rfl Tryd.sizeOf3 (by decide) rfl trivial) ?_
            refine stG rfl rfl rfl rfl rfl rfl (op_load1 rfl Tryd.isAgg3 (by first | exact ldv_own rfl rfl | exact ldv_pp rfl | exact ldv_old (by assumption) rfl | exact ldv_ptr (by assumption) rfl)) ?_
            refine stG rfl rfl rfl rfl rfl rfl (op_eql rfl rfl rfl) ?_
            refine st rfl rfl rfl (op_pickFO rfl rfl rfl) ?_
            refine st rfl rfl rfl (op_moveO rfl rfl) ?_
            refine AOps_split 40 rfl (fun h23 => ?_) (fun h23 => ?_)
            · rw [h23]; (try simp only [decide_eq_true_eq, decide_eq_false_iff_not, Bool.not_eq_true', Bool.not_eq_false', Int.not_lt, Int.not_le, Bool.not_true, Bool.not_false, Int.toNat_natCast, bne_iff_ne, beq_iff_eq, ne_eq, Decidable.not_not] at h23)
              refine stG rfl rfl rfl rfl rfl rfl (op_fieldAddrO (fo := 7) rfl Tryd.underlying28 rfl rfl Tryd.sizeOf26 (by decide) rfl trivial) ?_
              refine stG rfl rfl rfl rfl rfl rfl (op_load1 rfl Tryd.isAgg26 (by first | exact ldv_own rfl rfl | exact ldv_pp rfl | exact ldv_old (by assumption) rfl | exact ldv_ptr (by assumption) rfl)) ?_
              refine stG rfl rfl rfl rfl rfl rfl (op_lenS rfl rfl Tryd.underlying26 rfl rfl trivial) ?_
              refine stG rfl rfl rfl rfl rfl rfl (op_eql rfl rfl rfl) ?_
              refine stG rfl rfl rfl rfl rfl rfl (op_moveO rfl rfl) ?_
              refine AOps_split 45 rfl (fun h24 => ?_) (fun h24 => ?_)
              · rw [h24]; (try simp only [decide_eq_true_eq, decide_eq_false_iff_not, Bool.not_eq_true', Bool.not_eq_false', Int.not_lt, Int.not_le, Bool.not_true, Bool.not_false, Int.toNat_natCast, bne_iff_ne, beq_iff_eq, ne_eq, Decidable.not_not] at h24)
                refine stS rfl rfl rfl (.inl rfl) rfl rfl ?_
                refine stS rfl rfl rfl (.inl rfl) rfl rfl ?_
                refine stS rfl rfl rfl (.inl rfl) rfl rfl ?_
                refine stG rfl rfl rfl rfl rfl rfl (op_pickTO rfl rfl rfl) ?_
                refine st rfl rfl rfl (op_pickTO rfl rfl rfl) ?_
                refine st rfl rfl rfl (op_assignO rfl rfl) ?_
                refine AOps_nil ?_
                refine AWp_ret ?_
                (try simp only [blockQ, thenQ])
                refine ResQ_1 rfl hcl trivial (Ret_of ?_)
                simp_all [jbare, JNum.z]
              · rw [h24]; (try simp only [decide_eq_true_eq, decide_eq_false_iff_not, Bool.not_eq_true', Bool.not_eq_false', Int.not_lt, Int.not_le, Bool.not_true, Bool.not_false, Int.toNat_natCast, bne_iff_ne, beq_iff_eq, ne_eq, Decidable.not_not] at h24)
                refine stG rfl rfl rfl rfl rfl rfl (op_fieldAddrO (fo := 0) rfl Tryd.underlying28 rfl rfl Tryd.sizeOf3 (by decide) rfl trivial) ?_
                refine stG rfl rfl rfl rfl rfl rfl (op_load1 rfl Tryd.isAgg3 (by first | exact ldv_own rfl rfl | exact ldv_pp rfl | exact ldv_old (by assumption) rfl | exact ldv_ptr (by assumption) rfl)) ?_
                refine stG rfl rfl rfl rfl rfl rfl (op_eql rfl rfl rfl) ?_
                refine stG rfl rfl rfl rfl rfl rfl (op_pickFO rfl rfl rfl) ?_
                refine st rfl rfl rfl (op_pickTO rfl rfl rfl) ?_
                refine st rfl rfl rfl (op_assignO rfl rfl) ?_
                refine AOps_nil ?_
                refine AWp_ret ?_
                (try simp only [blockQ, thenQ])
                refine ResQ_1 rfl hcl trivial (Ret_of ?_)
                simp_all [jbare, JNum.z]
            · rw [h23]; (try simp only [decide_eq_true_eq, decide_eq_false_iff_not, Bool.not_eq_true', Bool.not_eq_false', Int.not_lt, Int.not_le, Bool.not_true, Bool.not_false, Int.toNat_natCast, bne_iff_ne, beq_iff_eq, ne_eq, Decidable.not_not] at h23)
              refine stS rfl rfl rfl (.inl rfl) rfl rfl ?_
              refine stS rfl rfl rfl (.inl rfl) rfl rfl ?_
              refine stS rfl rfl rfl (.inl rfl) rfl rfl ?_
              refine stS rfl rfl rfl (.inl rfl) rfl rfl ?_
              refine stS rfl rfl rfl (.inl rfl) rfl rfl ?_
              refine stS rfl rfl rfl (.inr rfl) rfl rfl ?_
              refine stS rfl rfl rfl (.inr rfl) rfl rfl ?_
              refine stS rfl rfl rfl (.inr rfl) rfl rfl ?_
              refine stS rfl rfl rfl (.inl rfl) rfl rfl ?_
              refine st rfl rfl rfl (op_pickFO rfl rfl rfl) ?_
              refine st rfl rfl rfl (op_assignO rfl rfl) ?_
              refine AOps_nil ?_
              refine AWp_ret ?_
              (try simp only [blockQ, thenQ])
              refine ResQ_1 rfl hcl trivial (Ret_of ?_)
              simp_all [jbare, JNum.z]
  · rw [h1]; (try simp only [decide_eq_true_eq, decide_eq_false_iff_not, Bool.not_eq_true', Bool.not_eq_false', Int.not_lt, Int.not_le, Bool.not_true, Bool.not_false, Int.toNat_natCast, bne_iff_ne, beq_iff_eq, ne_eq, Decidable.not_not] at h1)
    refine stS rfl rfl rfl (.inl rfl) rfl rfl ?_
    refine stS rfl rfl rfl (.inl rfl) rfl rfl ?_
    refine stS rfl rfl rfl (.inl rfl) rfl rfl ?_
    refine st rfl rfl rfl (op_pickFO rfl rfl rfl) ?_
    refine st rfl rfl rfl (op_moveO rfl rfl) ?_
    refine stG rfl rfl rfl rfl rfl rfl (op_fieldAddrO (fo := 2) rfl Tryd.underlying28 rfl rfl Tryd.sizeOf23 (by decide) rfl trivial) ?_
    refine stG rfl rfl rfl rfl rfl rfl (op_loadK (cs := [_, _, _]) rfl Tryd.isAgg23 Tryd.sizeOf23 (by first | exact ldv_own rfl rfl | exact ldv_pp rfl | exact ldv_old (by assumption) rfl | exact ldv_ptr (by assumption) rfl)) ?_
    refine stG rfl rfl rfl rfl rfl rfl (op_buildP (cs := [_, _, _]) [(0, 1), (1, 1), (2, 1)] rfl Tryd.underlying23 Tryd.zeroValue23 ⟨rfl, Tryd.sizeOf4, ⟨rfl, Tryd.sizeOf9, ⟨rfl, Tryd.sizeOf3, trivial⟩⟩⟩ rfl rfl) ?_
    refine stG rfl rfl rfl rfl rfl rfl (op_neS rfl Tryd.underlying23 (by kernel_rfl) (by kernel_rfl) (.bool _ _ _ _ _ _ _ _ (by decide) rfl Tryd.underlying4 (.str _ _ _ _ _ _ _ _ (by decide) rfl Tryd.underlying9 (.int _ _ _ _ _ _ _ _ _ _ (by decide) rfl Tryd.underlying3 (.nil _)))) rfl rfl) ?_
    refine stG rfl rfl rfl rfl rfl rfl (op_moveO rfl rfl) ?_
    refine AOps_split 15 rfl (fun h25 => ?_) (fun h25 => ?_)
    · rw [h25]; (try simp only [decide_eq_true_eq, decide_eq_false_iff_not, Bool.not_eq_true', Bool.not_eq_false', Int.not_lt, Int.not_le, Bool.not_true, Bool.not_false, Int.toNat_natCast, bne_iff_ne, beq_iff_eq, ne_eq, Decidable.not_not] at h25)
      refine stG rfl rfl rfl rfl rfl rfl (op_fieldAddrO (fo := 0) rfl Tryd.underlying28 rfl rfl Tryd.sizeOf3 (by decide) rfl trivial) ?_
      refine stG rfl rfl rfl rfl rfl rfl (op_load1 rfl Tryd.isAgg3 (by first | exact ldv_own rfl rfl | exact ldv_pp rfl | exact ldv_old (by assumption) rfl | exact ldv_ptr (by assumption) rfl)) ?_
      refine stG rfl rfl rfl rfl rfl rfl (op_neq rfl rfl rfl) ?_
      refine stG rfl rfl rfl rfl rfl rfl (op_pickTO rfl rfl rfl) ?_
      refine st rfl rfl rfl (op_pickFO rfl rfl rfl) ?_
      refine st rfl rfl rfl (op_moveO rfl rfl) ?_
      refine AOps_split 21 rfl (fun h26 => ?_) (fun h26 => ?_)
      · rw [h26]; (try simp only [decide_eq_true_eq, decide_eq_false_iff_not, Bool.not_eq_true', Bool.not_eq_false', Int.not_lt, Int.not_le, Bool.not_true, Bool.not_false, Int.toNat_natCast, bne_iff_ne, beq_iff_eq, ne_eq, Decidable.not_not] at h26)
        refine stS rfl rfl rfl (.inl rfl) rfl rfl ?_
        refine stS rfl rfl rfl (.inl rfl) rfl rfl ?_
        refine stS rfl rfl rfl (.inl rfl) rfl rfl ?_
        refine stS rfl rfl rfl (.inl rfl) rfl rfl ?_
        refine stS rfl rfl rfl (.inr rfl) rfl rfl ?_
        refine stS rfl rfl rfl (.inr rfl) rfl rfl ?_
        refine stS rfl rfl rfl (.inr rfl) rfl rfl ?_
        refine stS rfl rfl rfl (.inl rfl) rfl rfl ?_
        refine st rfl rfl rfl (op_pickTO rfl rfl rfl) ?_
        refine AOps_nil ?_
        refine AWp_condT rfl ?_
        refine AWp_seq ?_
        -- region 2 value.go:28
        refine AWp_regL ?_
        refine st rfl rfl rfl (op_assignO rfl rfl) ?_
        refine AOps_nil ?_
        refine AWp_ret ?_
        (try simp only [blockQ, thenQ])
        refine ResQ_1 rfl hcl trivial (Ret_of ?_)
        simp_all [jbare, JNum.z]
      · rw [h26]; (try simp only [decide_eq_true_eq, decide_eq_false_iff_not, Bool.not_eq_true', Bool.not_eq_false', Int.not_lt, Int.not_le, Bool.not_true, Bool.not_false, Int.toNat_natCast, bne_iff_ne, beq_iff_eq, ne_eq, Decidable.not_not] at h26)
        refine stG rfl rfl rfl rfl rfl rfl (op_fieldAddrO (fo := 5) rfl Tryd.underlying28 rfl rfl Tryd.sizeOf9 (by decide) rfl trivial) ?_
        refine stG rfl rfl rfl rfl rfl rfl (op_load1 rfl Tryd.isAgg9 (by first | exact ldv_own rfl rfl | exact ldv_pp rfl | exact ldv_old (by assumption) rfl | exact ldv_ptr (by assumption) rfl)) ?_
        refine stG rfl rfl rfl rfl rfl rfl (op_sneq rfl rfl rfl) ?_
        refine stG rfl rfl rfl rfl rfl rfl (op_moveO rfl rfl) ?_
        refine AOps_split 25 rfl (fun h27 => ?_) (fun h27 => ?_)
        · rw [h27]; (try simp only [decide_eq_true_eq, decide_eq_false_iff_not, Bool.not_eq_true', Bool.not_eq_false', Int.not_lt, Int.not_le, Bool.not_true, Bool.not_false, Int.toNat_natCast, bne_iff_ne, beq_iff_eq, ne_eq, Decidable.not_not] at h27)
          refine stG rfl rfl rfl rfl rfl rfl (op_fieldAddrO (fo := 0) rfl Tryd.underlying28 rfl rfl Tryd.sizeOf3 (by decide) rfl trivial) ?_
          refine stG rfl rfl rfl rfl rfl rfl (op_load1 rfl Tryd.isAgg3 (by first | exact ldv_own rfl rfl | exact ldv_pp rfl | exact ldv_old (by assumption) rfl | exact ldv_ptr (by assumption) rfl)) ?_
          refine stG rfl rfl rfl rfl rfl rfl (op_neq rfl rfl rfl) ?_
          refine stG rfl rfl rfl rfl rfl rfl (op_pickTO rfl rfl rfl) ?_
          refine st rfl rfl rfl (op_pickFO rfl rfl rfl) ?_
          refine AOps_nil ?_
          refine AWp_cond rfl (fun h28 => ?_) (fun h28 => ?_)
          · (try rw [h28]); (try simp only [decide_eq_true_eq, decide_eq_false_iff_not, Bool.not_eq_true', Bool.not_eq_false', Int.not_lt, Int.not_le, Bool.not_true, Bool.not_false, Int.toNat_natCast, bne_iff_ne, beq_iff_eq, ne_eq, Decidable.not_not] at h28)
            refine AWp_seq ?_
            -- region 2 value.go:28
            refine AWp_regL ?_
            refine st rfl rfl rfl (op_assignO rfl rfl) ?_
            refine AOps_nil ?_
            refine AWp_ret ?_
            (try simp only [blockQ, thenQ])
            refine ResQ_1 rfl hcl trivial (Ret_of ?_)
            simp_all [jbare, JNum.z]
          · (try rw [h28]); (try simp only [decide_eq_true_eq, decide_eq_false_iff_not, Bool.not_eq_true', Bool.not_eq_false', Int.not_lt, Int.not_le, Bool.not_true, Bool.not_false, Int.toNat_natCast, bne_iff_ne, beq_iff_eq, ne_eq, Decidable.not_not] at h28)
            refine AWp_skip ?_
            refine AWp_seq ?_
            -- region 3 value.go:30
            refine AWp_regL ?_
            refine st rfl rfl rfl (op_fieldAddrO (fo := 6) rfl Tryd.underlying28 rfl rfl Tryd.sizeOf25 (by decide) rfl trivial) ?_
            refine st rfl rfl rfl (op_load1 rfl Tryd.isAgg25 (by first | exact ldv_own rfl rfl | exact ldv_pp rfl | exact ldv_old (by assumption) rfl | exact ldv_ptr (by assumption) rfl)) ?_
            refine st rfl rfl rfl (op_lenS rfl rfl Tryd.underlying25 rfl rfl trivial) ?_
            refine st rfl rfl rfl (op_eql rfl rfl rfl) ?_
            refine st rfl rfl rfl (op_moveO rfl rfl) ?_
            refine AOps_split 35 rfl (fun h29 => ?_) (fun h29 => ?_)
            · rw [h29]; (try simp only [decide_eq_true_eq, decide_eq_false_iff_not, Bool.not_eq_true', Bool.not_eq_false', Int.not_lt, Int.not_le, Bool.not_true, Bool.not_false, Int.toNat_natCast, bne_iff_ne, beq_iff_eq, ne_eq, Decidable.not_not] at h29)
              refine stS rfl rfl rfl (.inl rfl) rfl rfl ?_
              refine stS rfl rfl rfl (.inl rfl) rfl rfl ?_
              refine stS rfl rfl rfl (.inl rfl) rfl rfl ?_
              refine st rfl rfl rfl (op_pickTO rfl rfl rfl) ?_
              refine st rfl rfl rfl (op_moveO rfl rfl) ?_
              refine stG rfl rfl rfl rfl rfl rfl (op_fieldAddrO (fo := 7) rfl Tryd.underlying28 rfl rfl Tryd.sizeOf26 (by decide) rfl trivial) ?_
              refine stG rfl rfl rfl rfl rfl rfl (op_load1 rfl Tryd.isAgg26 (by first | exact ldv_own rfl rfl | exact ldv_pp rfl | exact ldv_old (by assumption) rfl | exact ldv_ptr (by assumption) rfl)) ?_
              refine stG rfl rfl rfl rfl rfl rfl (op_lenS rfl rfl Tryd.underlying26 rfl rfl trivial) ?_
              refine stG rfl rfl rfl rfl rfl rfl (op_eql rfl rfl rfl) ?_
              refine stG rfl rfl rfl rfl rfl rfl (op_moveO rfl rfl) ?_
              refine AOps_split 45 rfl (fun h30 => ?_) (fun h30 => ?_)
              · rw [h30]; (try simp only [decide_eq_true_eq, decide_eq_false_iff_not, Bool.not_eq_true', Bool.not_eq_false', Int.not_lt, Int.not_le, Bool.not_true, Bool.not_false, Int.toNat_natCast, bne_iff_ne, beq_iff_eq, ne_eq, Decidable.not_not] at h30)
                refine stS rfl rfl rfl (.inl rfl) rfl rfl ?_
                refine stS rfl rfl rfl (.inl rfl) rfl rfl ?_
                refine stS rfl rfl rfl (.inl rfl) rfl rfl ?_
                refine stG rfl rfl rfl rfl rfl rfl (op_pickTO rfl rfl rfl) ?_
                refine st rfl rfl rfl (op_pickTO rfl rfl rfl) ?_
                refine st rfl rfl rfl (op_assignO rfl rfl) ?_
                refine AOps_nil ?_
                refine AWp_ret ?_
                (try simp only [blockQ, thenQ])
                refine ResQ_1 rfl hcl trivial (Ret_of ?_)
                simp_all [jbare, JNum.z]
              · rw [h30]; (try simp only [decide_eq_true_eq, decide_eq_false_iff_not, Bool.not_eq_true', Bool.not_eq_false', Int.not_lt, Int.not_le, Bool.not_true, Bool.not_false, Int.toNat_natCast, bne_iff_ne, beq_iff_eq, ne_eq, Decidable.not_not] at h30)
                refine stG rfl rfl rfl rfl rfl rfl (op_fieldAddrO (fo := 0) rfl Tryd.underlying28 rfl rfl Tryd.sizeOf3 (by decide) rfl trivial) ?_
                refine stG rfl rfl rfl rfl rfl rfl (op_load1 rfl Tryd.isAgg3 (by first | exact ldv_own rfl rfl | exact ldv_pp rfl | exact ldv_old (by assumption) rfl | exact ldv_ptr (by assumption) rfl)) ?_
                refine stG rfl rfl rfl rfl rfl rfl (op_eql rfl rfl rfl) ?_
                refine stG rfl rfl rfl rfl rfl rfl (op_pickFO rfl rfl rfl) ?_
                refine st rfl rfl rfl (op_pickTO rfl rfl rfl) ?_
                refine st rfl rfl rfl (op_assignO rfl rfl) ?_
                refine AOps_nil ?_
                refine AWp_ret ?_
                (try simp only [blockQ, thenQ])
                refine ResQ_1 rfl hcl trivial (Ret_of ?_)
                simp_all [jbare, JNum.z]
            · rw [h29]; (try simp only [decide_eq_true_eq, decide_eq_false_iff_not, Bool.not_eq_true', Bool.not_eq_false', Int.not_lt, Int.not_le, Bool.not_true, Bool.not_false, Int.toNat_natCast, bne_iff_ne, beq_iff_eq, ne_eq, Decidable.not_not] at h29)
              refine stG rfl rfl rfl rfl rfl rfl (op_fieldAddrO (fo := 0) rfl Tryd.underlying28 rfl rfl Tryd.sizeOf3 (by decide) rfl trivial) ?_
              refine stG rfl rfl rfl rfl rfl rfl (op_load1 rfl Tryd.isAgg3 (by first | exact ldv_own rfl rfl | exact ldv_pp rfl | exact ldv_old (by assumption) rfl | exact ldv_ptr (by assumption) rfl)) ?_
              refine stG rfl rfl rfl rfl rfl rfl (op_eql rfl rfl rfl) ?_
              refine st rfl rfl rfl (op_pickFO rfl rfl rfl) ?_
              refine st rfl rfl rfl (op_moveO rfl rfl) ?_
              refine AOps_split 40 rfl (fun h31 => ?_) (fun h31 => ?_)
              · rw [h31]; (try simp only [decide_eq_true_eq, decide_eq_false_iff_not, Bool.not_eq_true', Bool.not_eq_false', Int.not_lt, Int.not_le, Bool.not_true, Bool.not_false, Int.toNat_natCast, bne_iff_ne, beq_iff_eq, ne_eq, Decidable.not_not] at h31)
                refine stG rfl rfl rfl rfl rfl rfl (op_fieldAddrO (fo := 7) rfl Tryd.underlying28 rfl rfl Tryd.sizeOf26 (by decide) rfl trivial) ?_
                refine stG rfl rfl rfl rfl rfl rfl (op_load1 rfl Tryd.isAgg26 (by first | exact ldv_own rfl rfl | exact ldv_pp rfl | exact ldv_old (by assumption) rfl | exact ldv_ptr (by assumption) rfl)) ?_
                refine stG rfl rfl rfl rfl rfl rfl (op_lenS rfl rfl Tryd.underlying26 rfl rfl trivial) ?_
                refine stG rfl rfl rfl rfl rfl rfl (op_eql rfl rfl rfl) ?_
                refine stG rfl rfl rfl rfl rfl rfl (op_moveO rfl rfl) ?_
                refine AOps_split 45 rfl (fun h32 => ?_) (fun h32 => ?_)
                · rw [h32]; (try simp only [decide_eq_true_eq, decide_eq_false_iff_not, Bool.not_eq_true', Bool.not_eq_false', Int.not_lt, Int.not_le, Bool.not_true, Bool.not_false, Int.toNat_natCast, bne_iff_ne, beq_iff_eq, ne_eq, Decidable.not_not] at h32)
                  refine stS rfl rfl rfl (.inl rfl) rfl rfl ?_
                  refine stS rfl rfl rfl (.inl rfl) rfl rfl ?_
                  refine stS rfl rfl rfl (.inl rfl) rfl rfl ?_
                  refine stG rfl rfl rfl rfl rfl rfl (op_pickTO rfl rfl rfl) ?_
                  refine st rfl rfl rfl (op_pickTO rfl rfl rfl) ?_
                  refine st rfl rfl rfl (op_assignO rfl rfl) ?_
                  refine AOps_nil ?_
                  refine AWp_ret ?_
                  (try simp only [blockQ, thenQ])
                  refine ResQ_1 rfl hcl trivial (Ret_of ?_)
                  simp_all [jbare, JNum.z]
                · rw [h32]; (try simp only [decide_eq_true_eq, decide_eq_false_iff_not, Bool.not_eq_true', Bool.not_eq_false', Int.not_lt, Int.not_le, Bool.not_true, Bool.not_false, Int.toNat_natCast, bne_iff_ne, beq_iff_eq, ne_eq, Decidable.not_not] at h32)
                  refine stG rfl rfl rfl rfl rfl rfl (op_fieldAddrO (fo := 0) rfl Tryd.underlying28 rfl rfl Tryd.sizeOf3 (by decide) rfl trivial) ?_
                  refine stG rfl rfl rfl rfl rfl rfl (op_load1 rfl Tryd.isAgg3 (by first | exact ldv_own rfl rfl | exact ldv_pp rfl | exact ldv_old (by assumption) rfl | exact ldv_ptr (by assumption) rfl)) ?_
                  refine stG rfl rfl rfl rfl rfl rfl (op_eql rfl rfl rfl) ?_
                  refine stG rfl rfl rfl rfl rfl rfl (op_pickFO rfl rfl rfl) ?_
                  refine st rfl rfl rfl (op_pickTO rfl rfl rfl) ?_
                  refine st rfl rfl rfl (op_assignO rfl rfl) ?_
                  refine AOps_nil ?_
                  refine AWp_ret ?_
                  (try simp only [blockQ, thenQ])
                  refine ResQ_1 rfl hcl trivial (Ret_of ?_)
                  simp_all [jbare, JNum.z]
              · rw [h31]; (try simp only [decide_eq_true_eq, decide_eq_false_iff_not, Bool.not_eq_true', Bool.not_eq_false', Int.not_lt, Int.not_le, Bool.not_true, Bool.not_false, Int.toNat_natCast, bne_iff_ne, beq_iff_eq, ne_eq, Decidable.not_not] at h31)
                refine stS rfl rfl rfl (.inl rfl) rfl rfl ?_
                refine stS rfl rfl rfl (.inl rfl) rfl rfl ?_
                refine stS rfl rfl rfl (.inl rfl) rfl rfl ?_
                refine stS rfl rfl rfl (.inl rfl) rfl rfl ?_
                refine stS rfl rfl rfl (.inl rfl) rfl rfl ?_
                refine stS rfl rfl rfl (.inr rfl) rfl rfl ?_
                refine stS rfl rfl rfl (.inr rfl) rfl rfl ?_
                refine stS rfl rfl rfl (.inr rfl) rfl rfl ?_
                refine stS rfl rfl rfl (.inl rfl) rfl rfl ?_
                refine st rfl rfl rfl (op_pickFO rfl rfl rfl) ?_
                refine st rfl rfl rfl (op_assignO rfl rfl) ?_
                refine AOps_nil ?_
                refine AWp_ret ?_
                (try simp only [blockQ, thenQ])
                refine ResQ_1 rfl hcl trivial (Ret_of ?_)
                simp_all [jbare, JNum.z]
        · rw [h27]; (try simp only [decide_eq_true_eq, decide_eq_false_iff_not, Bool.not_eq_true', Bool.not_eq_false', Int.not_lt, Int.not_le, Bool.not_true, Bool.not_false, Int.toNat_natCast, bne_iff_ne, beq_iff_eq, ne_eq, Decidable.not_not] at h27)
          refine stS rfl rfl rfl (.inl rfl) rfl rfl ?_
          refine stS rfl rfl rfl (.inl rfl) rfl rfl ?_
          refine stS rfl rfl rfl (.inl rfl) rfl rfl ?_
          refine stG rfl rfl rfl rfl rfl rfl (op_pickFO rfl rfl rfl) ?_
          refine st rfl rfl rfl (op_pickFO rfl rfl rfl) ?_
          refine AOps_nil ?_
          refine AWp_condF rfl ?_
          refine AWp_skip ?_
          refine AWp_seq ?_
          -- region 3 value.go:30
          refine AWp_regL ?_
          refine st rfl rfl rfl (op_fieldAddrO (fo := 6) rfl Tryd.underlying28 rfl rfl Tryd.sizeOf25 (by decide) rfl trivial) ?_
          refine st rfl rfl rfl (op_load1 rfl Tryd.isAgg25 (by first | exact ldv_own rfl rfl | exact ldv_pp rfl | exact ldv_old (by assumption) rfl | exact ldv_ptr (by assumption) rfl)) ?_
          refine st rfl rfl rfl (op_lenS rfl rfl Tryd.underlying25 rfl rfl trivial) ?_
          refine st rfl rfl rfl (op_eql rfl rfl rfl) ?_
          refine st rfl rfl rfl (op_moveO rfl rfl) ?_
          refine AOps_split 35 rfl (fun h33 => ?_) (fun h33 => ?_)
          · rw [h33]; (try simp only [decide_eq_true_eq, decide_eq_false_iff_not, Bool.not_eq_true', Bool.not_eq_false', Int.not_lt, Int.not_le, Bool.not_true, Bool.not_false, Int.toNat_natCast, bne_iff_ne, beq_iff_eq, ne_eq, Decidable.not_not] at h33)
            refine stS rfl rfl rfl (.inl rfl) rfl rfl ?_
            refine stS rfl rfl rfl (.inl rfl) rfl rfl ?_
            refine stS rfl rfl rfl (.inl rfl) rfl rfl ?_
            refine st rfl rfl rfl (op_pickTO rfl rfl rfl) ?_
            refine st rfl rfl rfl (op_moveO rfl rfl) ?_
            refine stG rfl rfl rfl rfl rfl rfl (op_fieldAddrO (fo := 7) rfl Tryd.underlying28 rfl rfl Tryd.sizeOf26 (by decide) rfl trivial) ?_
            refine stG rfl rfl rfl rfl rfl rfl (op_load1 rfl Tryd.isAgg26 (by first | exact ldv_own rfl rfl | exact ldv_pp rfl | exact ldv_old (by assumption) rfl | exact ldv_ptr (by assumption) rfl)) ?_
            refine stG rfl rfl rfl rfl rfl rfl (op_lenS rfl rfl Tryd.underlying26 rfl rfl trivial) ?_
            refine stG rfl rfl rfl rfl rfl rfl (op_eql rfl rfl rfl) ?_
            refine stG rfl rfl rfl rfl rfl rfl (op_moveO rfl rfl) ?_
            refine AOps_split 45 rfl (fun h34 => ?_) (fun h34 => ?_)
            · rw [h34]; (try simp only [decide_eq_true_eq, decide_eq_false_iff_not, Bool.not_eq_true', Bool.not_eq_false', Int.not_lt, Int.not_le, Bool.not_true, Bool.not_false, Int.toNat_natCast, bne_iff_ne, beq_iff_eq, ne_eq, Decidable.not_not] at h34)
              refine stS rfl rfl rfl (.inl rfl) rfl rfl ?_
              refine stS rfl rfl rfl (.inl rfl) rfl rfl ?_
              refine stS rfl rfl rfl (.inl rfl) rfl rfl ?_
              refine stG rfl rfl rfl rfl rfl rfl (op_pickTO rfl rfl rfl) ?_
              refine st rfl rfl rfl (op_pickTO rfl rfl rfl) ?_
              refine st rfl rfl rfl (op_assignO rfl rfl) ?_
              refine AOps_nil ?_
              refine AWp_ret ?_
              (try simp only [blockQ, thenQ])
              refine ResQ_1 rfl hcl trivial (Ret_of ?_)
              simp_all [jbare, JNum.z]
            · rw [h34]; (try simp only [decide_eq_true_eq, decide_eq_false_iff_not, Bool.not_eq_true', Bool.not_eq_false', Int.not_lt, Int.not_le, Bool.not_true, Bool.not_false, Int.toNat_natCast, bne_iff_ne, beq_iff_eq, ne_eq, Decidable.not_not] at h34)
              refine stG rfl rfl rfl rfl rfl rfl (op_fieldAddrO (fo := 0) rfl Tryd.underlying28 rfl rfl Tryd.sizeOf3 (by decide) rfl trivial) ?_
              refine stG rfl rfl rfl rfl rfl rfl (op_load1 rfl Tryd.isAgg3 (by first | exact ldv_own rfl rfl | exact ldv_pp rfl | exact ldv_old (by assumption) rfl | exact ldv_ptr (by assumption) rfl)) ?_
              refine stG rfl rfl rfl rfl rfl rfl (op_eql rfl rfl rfl) ?_
              refine stG rfl rfl rfl rfl rfl rfl (op_pickFO rfl rfl rfl) ?_
              refine st rfl rfl rfl (op_pickTO rfl rfl rfl) ?_
              refine st rfl rfl rfl (op_assignO rfl rfl) ?_
              refine AOps_nil ?_
              refine AWp_ret ?_
              (try simp only [blockQ, thenQ])
              refine ResQ_1 rfl hcl trivial (Ret_of ?_)
              simp_all [jbare, JNum.z]
          · rw [h33]; (try simp only [decide_eq_true_eq, decide_eq_false_iff_not, Bool.not_eq_true', Bool.not_eq_false', Int.not_lt, Int.not_le, Bool.not_true, Bool.not_false, Int.toNat_natCast, bne_iff_ne, beq_iff_eq, ne_eq, Decidable.not_not] at h33)
            refine stG rfl rfl rfl rfl rfl rfl (op_fieldAddrO (fo := 0) rfl Tryd.underlying28 rfl rfl Tryd.sizeOf3 (by decide) rfl trivial) ?_
            refine stG rfl rfl rfl rfl rfl rfl (op_load1 rfl Tryd.isAgg3 (by first | exact ldv_own rfl rfl | exact ldv_pp rfl | exact ldv_old (by assumption) rfl | exact ldv_ptr (by assumption) rfl)) ?_
            refine stG rfl rfl rfl rfl rfl rfl (op_eql rfl rfl rfl) ?_
            refine st rfl rfl rfl (op_pickFO rfl rfl rfl) ?_
            refine st rfl rfl rfl (op_moveO rfl rfl) ?_
            refine AOps_split 40 rfl (fun h35 => ?_) (fun h35 => ?_)
            · rw [h35]; (try simp only [decide_eq_true_eq, decide_eq_false_iff_not, Bool.not_eq_true', Bool.not_eq_false', Int.not_lt, Int.not_le, Bool.not_true, Bool.not_false, Int.toNat_natCast, bne_iff_ne, beq_iff_eq, ne_eq, Decidable.not_not] at h35)
              refine stG rfl rfl rfl rfl rfl rfl (op_fieldAddrO (fo := 7) rfl Tryd.underlying28 rfl rfl Tryd.sizeOf26 (by decide) rfl trivial) ?_
              refine stG rfl rfl rfl rfl rfl rfl (op_load1 rfl Tryd.isAgg26 (by first | exact ldv_own rfl rfl | exact ldv_pp rfl | exact ldv_old (by assumption) rfl | exact ldv_ptr (by assumption) rfl)) ?_
              refine stG rfl rfl rfl rfl rfl rfl (op_lenS rfl rfl Tryd.underlying26 rfl rfl trivial) ?_
              refine stG rfl rfl rfl rfl rfl rfl (op_eql rfl rfl rfl) ?_
              refine stG rfl rfl rfl rfl rfl rfl (op_moveO rfl rfl) ?_
              refine AOps_split 45 rfl (fun h36 => ?_) (fun h36 => ?_)
              · rw [h36]; (try simp only [decide_eq_true_eq, decide_eq_false_iff_not, Bool.not_eq_true', Bool.not_eq_false', Int.not_lt, Int.not_le, Bool.not_true, Bool.not_false, Int.toNat_natCast, bne_iff_ne, beq_iff_eq, ne_eq, Decidable.not_not] at h36)
                refine stS rfl rfl rfl (.inl rfl) rfl rfl ?_
                refine stS rfl rfl rfl (.inl rfl) rfl rfl ?_
                refine stS rfl rfl rfl (.inl rfl) rfl rfl ?_
                refine stG rfl rfl rfl rfl rfl rfl (op_pickTO rfl rfl rfl) ?_
                refine st rfl rfl rfl (op_pickTO rfl rfl rfl) ?_
                refine st rfl rfl rfl (op_assignO rfl rfl) ?_
                refine AOps_nil ?_
                refine AWp_ret ?_
                (try simp only [blockQ, thenQ])
                refine ResQ_1 rfl hcl trivial (Ret_of ?_)
                simp_all [jbare, JNum.z]
              · rw [h36]; (try simp only [decide_eq_true_eq, decide_eq_false_iff_not, Bool.not_eq_true', Bool.not_eq_false', Int.not_lt, Int.not_le, Bool.not_true, Bool.not_false, Int.toNat_natCast, bne_iff_ne, beq_iff_eq, ne_eq, Decidable.not_not] at h36)
                refine stG rfl rfl rfl rfl rfl rfl (op_fieldAddrO (fo := 0) rfl Tryd.underlying28 rfl rfl Tryd.sizeOf3 (by decide) rfl trivial) ?_
                refine stG rfl rfl rfl rfl rfl rfl (op_load1 rfl Tryd.isAgg3 (by first | exact ldv_own rfl rfl | exact ldv_pp rfl | exact ldv_old (by assumption) rfl | exact ldv_ptr (by assumption) rfl)) ?_
                refine stG rfl rfl rfl rfl rfl rfl (op_eql rfl rfl rfl) ?_
                refine stG rfl rfl rfl rfl rfl rfl (op_pickFO rfl rfl rfl) ?_
                refine st rfl rfl rfl (op_pickTO rfl rfl rfl) ?_
                refine st rfl rfl rfl (op_assignO rfl rfl) ?_
                refine AOps_nil ?_
                refine AWp_ret ?_
                (try simp only [blockQ, thenQ])
                refine ResQ_1 rfl hcl trivial (Ret_of ?_)
                simp_all [jbare, JNum.z]
            · rw [h35]; (try simp only [decide_eq_true_eq, decide_eq_false_iff_not, Bool.not_eq_true', Bool.not_eq_false', Int.not_lt, Int.not_le, Bool.not_true, Bool.not_false, Int.toNat_natCast, bne_iff_ne, beq_iff_eq, ne_eq, Decidable.not_not] at h35)
              refine stS rfl rfl rfl (.inl rfl) rfl rfl ?_
              refine stS rfl rfl rfl (.inl rfl) rfl rfl ?_
              refine stS rfl rfl rfl (.inl rfl) rfl rfl ?_
              refine stS rfl rfl rfl (.inl rfl) rfl rfl ?_
              refine stS rfl rfl rfl (.inl rfl) rfl rfl ?_
              refine stS rfl rfl rfl (.inr rfl) rfl rfl ?_
              refine stS rfl rfl rfl (.inr rfl) rfl rfl ?_
              refine stS rfl rfl rfl (.inr rfl) rfl rfl ?_
              refine stS rfl rfl rfl (.inl rfl) rfl rfl ?_
              refine st rfl rfl rfl (op_pickFO rfl rfl rfl) ?_
              refine st rfl rfl rfl (op_assignO rfl rfl) ?_
              refine AOps_nil ?_
              refine AWp_ret ?_
              (try simp only [blockQ, thenQ])
              refine ResQ_1 rfl hcl trivial (Ret_of ?_)
              simp_all [jbare, JNum.z]
    · rw [h25]; (try simp only [decide_eq_true_eq, decide_eq_false_iff_not, Bool.not_eq_true', Bool.not_eq_false', Int.not_lt, Int.not_le, Bool.not_true, Bool.not_false, Int.toNat_natCast, bne_iff_ne, beq_iff_eq, ne_eq, Decidable.not_not] at h25)
      refine stS rfl rfl rfl (.inl rfl) rfl rfl ?_
      refine stS rfl rfl rfl (.inl rfl) rfl rfl ?_
      refine stS rfl rfl rfl (.inl rfl) rfl rfl ?_
      refine stG rfl rfl rfl rfl rfl rfl (op_pickFO rfl rfl rfl) ?_
      refine st rfl rfl rfl (op_pickFO rfl rfl rfl) ?_
      refine st rfl rfl rfl (op_moveO rfl rfl) ?_
      refine stG rfl rfl rfl rfl rfl rfl (op_fieldAddrO (fo := 5) rfl Tryd.underlying28 rfl rfl Tryd.sizeOf9 (by decide) rfl trivial) ?_
      refine stG rfl rfl rfl rfl rfl rfl (op_load1 rfl Tryd.isAgg9 (by first | exact ldv_own rfl rfl | exact ldv_pp rfl | exact ldv_old (by assumption) rfl | exact ldv_ptr (by assumption) rfl)) ?_
      refine stG rfl rfl rfl rfl rfl rfl (op_sneq rfl rfl rfl) ?_
      refine stG rfl rfl rfl rfl rfl rfl (op_moveO rfl rfl) ?_
      refine AOps_split 25 rfl (fun h37 => ?_) (fun h37 => ?_)
      · rw [h37]; (try simp only [decide_eq_true_eq, decide_eq_false_iff_not, Bool.not_eq_true', Bool.not_eq_false', Int.not_lt, Int.not_le, Bool.not_true, Bool.not_false, Int.toNat_natCast, bne_iff_ne, beq_iff_eq, ne_eq, Decidable.not_not] at h37)
        refine stG rfl rfl rfl rfl rfl rfl (op_fieldAddrO (fo := 0) rfl Tryd.underlying28 rfl rfl Tryd.sizeOf3 (by decide) rfl trivial) ?_
        refine stG rfl rfl rfl rfl rfl rfl (op_load1 rfl Tryd.isAgg3 (by first | exact ldv_own rfl rfl | exact ldv_pp rfl | exact ldv_old (by assumption) rfl | exact ldv_ptr (by assumption) rfl)) ?_
        refine stG rfl rfl rfl rfl rfl rfl (op_neq rfl rfl rfl) ?_
        refine stG rfl rfl rfl rfl rfl rfl (op_pickTO rfl rfl rfl) ?_
        refine st rfl rfl rfl (op_pickFO rfl rfl rfl) ?_
        refine AOps_nil ?_
        refine AWp_cond rfl (fun h38 => ?_) (fun h38 => ?_)
        · (try rw [h38]); (try simp only [decide_eq_true_eq, decide_eq_false_iff_not, Bool.not_eq_true', Bool.not_eq_false', Int.not_lt, Int.not_le, Bool.not_true, Bool.not_false, Int.toNat_natCast, bne_iff_ne, beq_iff_eq, ne_eq, Decidable.not_not] at h38)
          refine AWp_seq ?_
          -- region 2 value.go:28
          refine AWp_regL ?_
          refine st rfl rfl rfl (op_assignO rfl rfl) ?_
          refine AOps_nil ?_
          refine AWp_ret ?_
          (try simp only [blockQ, thenQ])
          refine ResQ_1 rfl hcl trivial (Ret_of ?_)
          simp_all [jbare, JNum.z]
        · (try rw [h38]); (try simp only [decide_eq_true_eq, decide_eq_false_iff_not, Bool.not_eq_true', Bool.not_eq_false', Int.not_lt, Int.not_le, Bool.not_true, Bool.not_false, Int.toNat_natCast, bne_iff_ne, beq_iff_eq, ne_eq, Decidable.not_not] at h38)
          refine AWp_skip ?_
          refine AWp_seq ?_
          -- region 3 value.go:30
          refine AWp_regL ?_
          refine st rfl rfl rfl (op_fieldAddrO (fo := 6) rfl Tryd.underlying28 rfl rfl Tryd.sizeOf25 (by decide) rfl trivial) ?_
          refine st rfl rfl rfl (op_load1 rfl Tryd.isAgg25 (by first | exact ldv_own rfl rfl | exact ldv_pp rfl | exact ldv_old (by assumption) rfl | exact ldv_ptr (by assumption) rfl)) ?_
          refine st rfl rfl rfl (op_lenS rfl rfl Tryd.underlying25 rfl rfl trivial) ?_
          refine st rfl rfl rfl (op_eql rfl rfl rfl) ?_
          refine st rfl rfl rfl (op_moveO rfl rfl) ?_
          refine AOps_split 35 rfl (fun h39 => ?_) (fun h39 => ?_)
          · rw [h39]; (try simp only [decide_eq_true_eq, decide_eq_false_iff_not, Bool.not_eq_true', Bool.not_eq_false', Int.not_lt, Int.not_le, Bool.not_true, Bool.not_false, Int.toNat_natCast, bne_iff_ne, beq_iff_eq, ne_eq, Decidable.not_not] at h39)
            refine stS rfl rfl rfl (.inl rfl) rfl rfl ?_
            refine stS rfl rfl rfl (.inl rfl) rfl rfl ?_
            refine stS rfl rfl rfl (.inl rfl) rfl rfl ?_
            refine st rfl rfl rfl (op_pickTO rfl rfl rfl) ?_
            refine st rfl rfl rfl (op_moveO rfl rfl) ?_
            refine stG rfl rfl rfl rfl rfl rfl (op_fieldAddrO (fo := 7) rfl Tryd.underlying28 rfl rfl Tryd.sizeOf26 (by decide) rfl trivial) ?_
            refine stG rfl rfl rfl rfl rfl rfl (op_load1 rfl Tryd.isAgg26 (by first | exact ldv_own rfl rfl | exact ldv_pp rfl | exact ldv_old (by assumption) rfl | exact ldv_ptr (by assumption) rfl)) ?_
            refine stG rfl rfl rfl rfl rfl rfl (op_lenS rfl rfl Tryd.underlying26 rfl rfl trivial) ?_
            refine stG rfl rfl rfl rfl rfl rfl (op_eql rfl rfl rfl) ?_
            refine stG rfl rfl rfl rfl rfl rfl (op_moveO rfl rfl) ?_
            refine AOps_split 45 rfl (fun h40 => ?_) (fun h40 => ?_)
            · rw [h40]; (try simp only [decide_eq_true_eq, decide_eq_false_iff_not, Bool.not_eq_true', Bool.not_eq_false', Int.not_lt, Int.not_le, Bool.not_true, Bool.not_false, Int.toNat_natCast, bne_iff_ne, beq_iff_eq, ne_eq, Decidable.not_not] at h40)
              refine stS rfl rfl rfl (.inl rfl) rfl rfl ?_
              refine stS rfl rfl rfl (.inl rfl) rfl rfl ?_
              refine stS rfl rfl rfl (.inl rfl) rfl rfl ?_
              refine stG rfl rfl rfl rfl rfl rfl (op_pickTO rfl rfl rfl) ?_
              refine st rfl rfl rfl (op_pickTO rfl rfl rfl) ?_
              refine st rfl rfl rfl (op_assignO rfl rfl) ?_
              refine AOps_nil ?_
              refine AWp_ret ?_
              (try simp only [blockQ, thenQ])
              refine ResQ_1 rfl hcl trivial (Ret_of ?_)
              simp_all [jbare, JNum.z]
            · rw [h40]; (try simp only [decide_eq_true_eq, decide_eq_false_iff_not, Bool.not_eq_true', Bool.not_eq_false', Int.not_lt, Int.not_le, Bool.not_true, Bool.not_false, Int.toNat_natCast, bne_iff_ne, beq_iff_eq, ne_eq, Decidable.not_not] at h40)
              refine stG rfl rfl rfl rfl rfl rfl (op_fieldAddrO (fo := 0) rfl Tryd.underlying28 rfl rfl Tryd.sizeOf3 (by decide) rfl trivial) ?_
              refine stG rfl rfl rfl rfl rfl rfl (op_load1 rfl Tryd.isAgg3 (by first | exact ldv_own rfl rfl | exact ldv_pp rfl | exact ldv_old (by assumption) rfl | exact ldv_ptr (by assumption) rfl)) ?_
              refine stG rfl rfl rfl rfl rfl rfl (op_eql rfl rfl rfl) ?_
              refine stG rfl rfl rfl rfl rfl rfl (op_pickFO rfl rfl rfl) ?_
              refine st rfl rfl rfl (op_pickTO rfl rfl rfl) ?_
              refine st rfl rfl rfl (op_assignO rfl rfl) ?_
              refine AOps_nil ?_
              refine AWp_ret ?_
              (try simp only [blockQ, thenQ])
              refine ResQ_1 rfl hcl trivial (Ret_of ?_)
              simp_all [jbare, JNum.z]
          · rw [h39]; (try simp only [decide_eq_true_eq, decide_eq_false_iff_not, Bool.not_eq_true', Bool.not_eq_false', Int.not_lt, Int.not_le, Bool.not_true, Bool.not_false, Int.toNat_natCast, bne_iff_ne, beq_iff_eq, ne_eq, Decidable.not_not] at h39)
            refine stG rfl rfl rfl rfl rfl rfl (op_fieldAddrO (fo := 0) rfl Tryd.underlying28 rfl rfl Tryd.sizeOf3 (by decide) rfl trivial) ?_
            refine stG rfl rfl rfl rfl rfl rfl (op_load1 rfl Tryd.isAgg3 (by first | exact ldv_own rfl rfl | exact ldv_pp rfl | exact ldv_old (by assumption) rfl | exact ldv_ptr (by assumption) rfl)) ?_
            refine stG rfl rfl rfl rfl rfl rfl (op_eql rfl rfl rfl) ?_
            refine st rfl rfl rfl (op_pickFO rfl rfl rfl) ?_
            refine st rfl rfl rfl (op_moveO rfl rfl) ?_
            refine AOps_split 40 rfl (fun h41 => ?_) (fun h41 => ?_)
            · rw [h41]; (try simp only [decide_eq_true_eq, decide_eq_false_iff_not, Bool.not_eq_true', Bool.not_eq_false', Int.not_lt, Int.not_le, Bool.not_true, Bool.not_false, Int.toNat_natCast, bne_iff_ne, beq_iff_eq, ne_eq, Decidable.not_not] at h41)
              refine stG rfl rfl rfl rfl rfl rfl (op_fieldAddrO (fo := 7) rfl Tryd.underlying28 rfl rfl Tryd.sizeOf26 (by decide) rfl trivial) ?_
              refine stG rfl rfl rfl rfl rfl rfl (op_load1 rfl Tryd.isAgg26 (by first | exact ldv_own rfl rfl | exact ldv_pp rfl | exact ldv_old (by assumption) rfl | exact ldv_ptr (by assumption) rfl)) ?_
              refine stG rfl rfl rfl rfl rfl rfl (op_lenS rfl rfl Tryd.underlying26 rfl rfl trivial) ?_
              refine stG rfl rfl rfl rfl rfl rfl (op_eql rfl rfl rfl) ?_
              refine stG rfl rfl rfl rfl rfl rfl (op_moveO rfl rfl) ?_
              refine AOps_split 45 rfl (fun h42 => ?_) (fun h42 => ?_)
              · rw [h42]; (try simp only [decide_eq_true_eq, decide_eq_false_iff_not, Bool.not_eq_true', Bool.not_eq_false', Int.not_lt, Int.not_le, Bool.not_true, Bool.not_false, Int.toNat_natCast, bne_iff_ne, beq_iff_eq, ne_eq, Decidable.not_not] at h42)
                refine stS rfl rfl rfl (.inl rfl) rfl rfl ?_
                refine stS rfl rfl rfl (.inl rfl) rfl rfl ?_
                refine stS rfl rfl rfl (.inl rfl) rfl rfl ?_
                refine stG rfl rfl rfl rfl rfl rfl (op_pickTO rfl rfl rfl) ?_
                refine st rfl rfl rfl (op_pickTO rfl rfl rfl) ?_
                refine st rfl rfl rfl (op_assignO rfl rfl) ?_
                refine AOps_nil ?_
                refine AWp_ret ?_
                (try simp only [blockQ, thenQ])
                refine ResQ_1 rfl hcl trivial (Ret_of ?_)
                simp_all [jbare, JNum.z]
              · rw [h42]; (try simp only [decide_eq_true_eq, decide_eq_false_iff_not, Bool.not_eq_true', Bool.not_eq_false', Int.not_lt, Int.not_le, Bool.not_true, Bool.not_false, Int.toNat_natCast, bne_iff_ne, beq_iff_eq, ne_eq, Decidable.not_not] at h42)
                refine stG rfl rfl rfl rfl rfl rfl (op_fieldAddrO (fo := 0) rfl Tryd.underlying28 rfl rfl Tryd.sizeOf3 (by decide) rfl trivial) ?_
                refine stG rfl rfl rfl rfl rfl rfl (op_load1 rfl Tryd.isAgg3 (by first | exact ldv_own rfl rfl | exact ldv_pp rfl | exact ldv_old (by assumption) rfl | exact ldv_ptr (by assumption) rfl)) ?_
                refine stG rfl rfl rfl rfl rfl rfl (op_eql rfl rfl rfl) ?_
                refine stG rfl rfl rfl rfl rfl rfl (op_pickFO rfl rfl rfl) ?_
                refine st rfl rfl rfl (op_pickTO rfl rfl rfl) ?_
                refine st rfl rfl rfl (op_assignO rfl rfl) ?_
                refine AOps_nil ?_
                refine AWp_ret ?_
                (try simp only [blockQ, thenQ])
                refine ResQ_1 rfl hcl trivial (Ret_of ?_)
                simp_all [jbare, JNum.z]
            · rw [h41]; (try simp only [decide_eq_true_eq, decide_eq_false_iff_not, Bool.not_eq_true', Bool.not_eq_false', Int.not_lt, Int.not_le, Bool.not_true, Bool.not_false, Int.toNat_natCast, bne_iff_ne, beq_iff_eq, ne_eq, Decidable.not_not] at h41)
              refine stS rfl rfl rfl (.inl rfl) rfl rfl ?_
              refine stS rfl rfl rfl (.inl rfl) rfl rfl ?_
              refine stS rfl rfl rfl (.inl rfl) rfl rfl ?_
              refine stS rfl rfl rfl (.inl rfl) rfl rfl ?_
              refine stS rfl rfl rfl (.inl rfl) rfl rfl ?_
              refine stS rfl rfl rfl (.inr rfl) rfl rfl ?_
              refine stS rfl rfl rfl (.inr rfl) rfl rfl ?_
              refine stS rfl rfl rfl (.inr rfl) rfl rfl ?_
              refine stS rfl rfl rfl (.inl rfl) rfl rfl ?_
              refine st rfl rfl rfl (op_pickFO rfl rfl rfl) ?_
              refine st rfl rfl rfl (op_assignO rfl rfl) ?_
              refine AOps_nil ?_
              refine AWp_ret ?_
              (try simp only [blockQ, thenQ])
              refine ResQ_1 rfl hcl trivial (Ret_of ?_)
              simp_all [jbare, JNum.z]
      · rw [h37]; (try simp only [decide_eq_true_eq, decide_eq_false_iff_not, Bool.not_eq_true', Bool.not_eq_false', Int.not_lt, Int.not_le, Bool.not_true, Bool.not_false, Int.toNat_natCast, bne_iff_ne, beq_iff_eq, ne_eq, Decidable.not_not] at h37)
        refine stS rfl rfl rfl (.inl rfl) rfl rfl ?_
        refine stS rfl rfl rfl (.inl rfl) rfl rfl ?_
        refine stS rfl rfl rfl (.inl rfl) rfl rfl ?_
        refine stG rfl rfl rfl rfl rfl rfl (op_pickFO rfl rfl rfl) ?_
        refine st rfl rfl rfl (op_pickFO rfl rfl rfl) ?_
        refine AOps_nil ?_
        refine AWp_condF rfl ?_
        refine AWp_skip ?_
        refine AWp_seq ?_
        -- region 3 value.go:30
        refine AWp_regL ?_
        refine st rfl rfl rfl (op_fieldAddrO (fo := 6) rfl Tryd.underlying28 rfl rfl Tryd.sizeOf25 (by decide) rfl trivial) ?_
        refine st rfl rfl rfl (op_load1 rfl Tryd.isAgg25 (by first | exact ldv_own rfl rfl | exact ldv_pp rfl | exact ldv_old (by assumption) rfl | exact ldv_ptr (by assumption) rfl)) ?_
        refine st rfl rfl rfl (op_lenS rfl rfl Tryd.underlying25 rfl rfl trivial) ?_
        refine st rfl rfl rfl (op_eql rfl rfl rfl) ?_
        refine st rfl rfl rfl (op_moveO rfl rfl) ?_
        refine AOps_split 35 rfl (fun h43 => ?_) (fun h43 => ?_)
        · rw [h43]; (try simp only [decide_eq_true_eq, decide_eq_false_iff_not, Bool.not_eq_true', Bool.not_eq_false', Int.not_lt, Int.not_le, Bool.not_true, Bool.not_false, Int.toNat_natCast, bne_iff_ne, beq_iff_eq, ne_eq, Decidable.not_not] at h43)
          refine stS rfl rfl rfl (.inl rfl) rfl rfl ?_
          refine stS rfl rfl rfl (.inl rfl) rfl rfl ?_
          refine stS rfl rfl rfl (.inl rfl) rfl rfl ?_
          refine st rfl rfl rfl (op_pickTO rfl rfl rfl) ?_
          refine st rfl rfl rfl (op_moveO rfl rfl) ?_
          refine stG rfl rfl rfl rfl rfl rfl (op_fieldAddrO (fo := 7) rfl Tryd.underlying28 rfl rfl Tryd.sizeOf26 (by decide) rfl trivial) ?_
          refine stG rfl rfl rfl rfl rfl rfl (op_load1 rfl Tryd.isAgg26 (by first | exact ldv_own rfl rfl | exact ldv_pp rfl | exact ldv_old (by assumption) rfl | exact ldv_ptr (by assumption) rfl)) ?_
          refine stG rfl rfl rfl rfl rfl rfl (op_lenS rfl rfl Tryd.underlying26 rfl rfl trivial) ?_
          refine stG rfl rfl rfl rfl rfl rfl (op_eql rfl rfl rfl) ?_
          refine stG rfl rfl rfl rfl rfl rfl (op_moveO rfl rfl) ?_
          refine AOps_split 45 rfl (fun h44 => ?_) (fun h44 => ?_)
          · rw [h44]; (try simp only [decide_eq_true_eq, decide_eq_false_iff_not, Bool.not_eq_true', Bool.not_eq_false', Int.not_lt, Int.not_le, Bool.not_true, Bool.not_false, Int.toNat_natCast, bne_iff_ne, beq_iff_eq, ne_eq, Decidable.not_not] at h44)
            refine stS rfl rfl rfl (.inl rfl) rfl rfl ?_
            refine stS rfl rfl rfl (.inl rfl) rfl rfl ?_
            refine stS rfl rfl rfl (.inl rfl) rfl rfl ?_
            refine stG rfl rfl rfl rfl rfl rfl (op_pickTO rfl rfl rfl) ?_
            refine st rfl rfl rfl (op_pickTO rfl rfl rfl) ?_
            refine st rfl rfl rfl (op_assignO rfl rfl) ?_
            refine AOps_nil ?_
            refine AWp_ret ?_
            (try simp only [blockQ, thenQ])
            refine ResQ_1 rfl hcl trivial (Ret_of ?_)
            simp_all [jbare, JNum.z]
          · rw [h44]; (try simp only [decide_eq_true_eq, decide_eq_false_iff_not, Bool.not_eq_true', Bool.not_eq_false', Int.not_lt, Int.not_le, Bool.not_true, Bool.not_false, Int.toNat_natCast, bne_iff_ne, beq_iff_eq, ne_eq, Decidable.not_not] at h44)
            refine stG rfl rfl rfl rfl rfl rfl (op_fieldAddrO (fo := 0) rfl Tryd.underlying28 rfl rfl Tryd.sizeOf3 (by decide) rfl trivial) ?_
            refine stG rfl rfl rfl rfl rfl rfl (op_load1 rfl Tryd.isAgg3 (by first | exact ldv_own rfl rfl | exact ldv_pp rfl | exact ldv_old (by assumption) rfl | exact ldv_ptr (by assumption) rfl)) ?_
            refine stG rfl rfl rfl rfl rfl rfl (op_eql rfl rfl rfl) ?_
            refine stG rfl rfl rfl rfl rfl rfl (op_pickFO rfl rfl rfl) ?_
            refine st rfl rfl rfl (op_pickTO rfl rfl rfl) ?_
            refine st rfl rfl rfl (op_assignO rfl rfl) ?_
            refine AOps_nil ?_
            refine AWp_ret ?_
            (try simp only [blockQ, thenQ])
            refine ResQ_1 rfl hcl trivial (Ret_of ?_)
            simp_all [jbare, JNum.z]
        · rw [h43]; (try simp only [decide_eq_true_eq, decide_eq_false_iff_not, Bool.not_eq_true', Bool.not_eq_false', Int.not_lt, Int.not_le, Bool.not_true, Bool.not_false, Int.toNat_natCast, bne_iff_ne, beq_iff_eq, ne_eq, Decidable.not_not] at h43)
          refine stG rfl rfl rfl rfl rfl rfl (op_fieldAddrO (fo := 0) rfl Tryd.underlying28 rfl rfl Tryd.sizeOf3 (by decide) rfl trivial) ?_
          refine stG rfl rfl rfl rfl rfl rfl (op_load1 rfl Tryd.isAgg3 (by first | exact ldv_own rfl rfl | exact ldv_pp rfl | exact ldv_old (by assumption) rfl | exact ldv_ptr (by assumption) rfl)) ?_
          refine stG rfl rfl rfl rfl rfl rfl (op_eql rfl rfl rfl) ?_
          refine st rfl rfl rfl (op_pickFO rfl rfl rfl) ?_
          refine st rfl rfl rfl (op_moveO rfl rfl) ?_
          refine AOps_split 40 rfl (fun h45 => ?_) (fun h45 => ?_)
          · rw [h45]; (try simp only [decide_eq_true_eq, decide_eq_false_iff_not, Bool.not_eq_true', Bool.not_eq_false', Int.not_lt, Int.not_le, Bool.not_true, Bool.not_false, Int.toNat_natCast, bne_iff_ne, beq_iff_eq, ne_eq, Decidable.not_not] at h45)
            refine stG rfl rfl rfl rfl rfl rfl (op_fieldAddrO (fo := 7) rfl Tryd.underlying28 rfl rfl Tryd.sizeOf26 (by decide) rfl trivial) ?_
            refine stG rfl rfl rfl rfl rfl rfl (op_load1 rfl Tryd.isAgg26 (by first | exact ldv_own rfl rfl | exact ldv_pp rfl | exact ldv_old (by assumption) rfl | exact ldv_ptr (by assumption) rfl)) ?_
            refine stG rfl rfl rfl rfl rfl rfl (op_lenS rfl rfl Tryd.underlying26 rfl rfl trivial) ?_
            refine stG rfl rfl rfl rfl rfl rfl (op_eql rfl rfl rfl) ?_
            refine stG rfl rfl rfl rfl rfl rfl (op_moveO rfl rfl) ?_
            refine AOps_split 45 rfl (fun h46 => ?_) (fun h46 => ?_)
            · rw [h46]; (try simp only [decide_eq_true_eq, decide_eq_false_iff_not, Bool.not_eq_true', Bool.not_eq_false', Int.not_lt, Int.not_le, Bool.not_true, Bool.not_false, Int.toNat_natCast, bne_iff_ne, beq_iff_eq, ne_eq, Decidable.not_not] at h46)
              refine stS rfl rfl rfl (.inl rfl) rfl rfl ?_
              refine stS rfl rfl rfl (.inl rfl) rfl rfl ?_
              refine stS rfl rfl rfl (.inl rfl) rfl rfl ?_
              refine stG rfl rfl rfl rfl rfl rfl (op_pickTO rfl rfl rfl) ?_
              refine st rfl rfl rfl (op_pickTO rfl rfl rfl) ?_
              refine st rfl rfl rfl (op_assignO rfl rfl) ?_
              refine AOps_nil ?_
              refine AWp_ret ?_
              (try simp only [blockQ, thenQ])
              refine ResQ_1 rfl hcl trivial (Ret_of ?_)
              simp_all [jbare, JNum.z]
            · rw [h46]; (try simp only [decide_eq_true_eq, decide_eq_false_iff_not, Bool.not_eq_true', Bool.not_eq_false', Int.not_lt, Int.not_le, Bool.not_true, Bool.not_false, Int.toNat_natCast, bne_iff_ne, beq_iff_eq, ne_eq, Decidable.not_not] at h46)
              refine stG rfl rfl rfl rfl rfl rfl (op_fieldAddrO (fo := 0) rfl Tryd.underlying28 rfl rfl Tryd.sizeOf3 (by decide) rfl trivial) ?_
              refine stG rfl rfl rfl rfl rfl rfl (op_load1 rfl Tryd.isAgg3 (by first | exact ldv_own rfl rfl | exact ldv_pp rfl | exact ldv_old (by assumption) rfl | exact ldv_ptr (by assumption) rfl)) ?_
              refine stG rfl rfl rfl rfl rfl rfl (op_eql rfl rfl rfl) ?_
              refine stG rfl rfl rfl rfl rfl rfl (op_pickFO rfl rfl rfl) ?_
              refine st rfl rfl rfl (op_pickTO rfl rfl rfl) ?_
              refine st rfl rfl rfl (op_assignO rfl rfl) ?_
              refine AOps_nil ?_
              refine AWp_ret ?_
              (try simp only [blockQ, thenQ])
              refine ResQ_1 rfl hcl trivial (Ret_of ?_)
              simp_all [jbare, JNum.z]
          · rw [h45]; (try simp only [decide_eq_true_eq, decide_eq_false_iff_not, Bool.not_eq_true', Bool.not_eq_false', Int.not_lt, Int.not_le, Bool.not_true, Bool.not_false, Int.toNat_natCast, bne_iff_ne, beq_iff_eq, ne_eq, Decidable.not_not] at h45)
            refine stS rfl rfl rfl (.inl rfl) rfl rfl ?_
            refine stS rfl rfl rfl (.inl rfl) rfl rfl ?_
            refine stS rfl rfl rfl (.inl rfl) rfl rfl ?_
            refine stS rfl rfl rfl (.inl rfl) rfl rfl ?_
            refine stS rfl rfl rfl (.inl rfl) rfl rfl ?_
            refine stS rfl rfl rfl (.inr rfl) rfl rfl ?_
            refine stS rfl rfl rfl (.inr rfl) rfl rfl ?_
            refine stS rfl rfl rfl (.inr rfl) rfl rfl ?_
            refine stS rfl rfl rfl (.inl rfl) rfl rfl ?_
            refine st rfl rfl rfl (op_pickFO rfl rfl rfl) ?_
            refine st rfl rfl rfl (op_assignO rfl rfl) ?_
            refine AOps_nil ?_
            refine AWp_ret ?_
            (try simp only [blockQ, thenQ])
            refine ResQ_1 rfl hcl trivial (Ret_of ?_)
            simp_all [jbare, JNum.z]

theorem number_c (n : JNum) (σ : List AO) (hn : n.digits.size ≤ 1000000000) : ACalls Tryd.prog 29 [.agg (ncells n)] σ (Ret (.bool (pb (NumMay n))) σ) := by
  refine ACalls_body Tryd.func29 rfl Tryd.ntmps29 (res1 Tryd.results29) (Nat.le_of_ble_eq_true rfl) (fun hcl hal => ?_)
  refine AWp_seq ?_
  -- region 0 value.go:12
  refine AWp_regL ?_
  refine st rfl rfl rfl (op_box0 (cs := [_, _, _]) rfl rfl rfl) ?_
  refine st rfl rfl rfl (op_assignO rfl rfl) ?_
  refine AOps_nil ?_
  refine AWp_seq ?_
  refine AWp_seq ?_
  -- region 1 value.go:13
  refine AWp_regL ?_
  refine st rfl rfl rfl (op_fieldAddrO (fo := 1) rfl Tryd.underlying23 rfl rfl Tryd.sizeOf9 (by decide) rfl trivial) ?_
  refine st rfl rfl rfl (op_load1 rfl Tryd.isAgg9 (by first | exact ldv_own rfl rfl | exact ldv_pp rfl | exact ldv_old (by assumption) rfl | exact ldv_ptr (by assumption) rfl)) ?_
  refine st rfl rfl rfl (op_seql rfl rfl rfl) ?_
  refine AOps_nil ?_
  refine AWp_cond rfl (fun h1 => ?_) (fun h1 => ?_)
  · (try rw [h1]); (try simp only [decide_eq_true_eq, decide_eq_false_iff_not, Bool.not_eq_true', Bool.not_eq_false', Int.not_lt, Int.not_le, Bool.not_true, Bool.not_false, Int.toNat_natCast, bne_iff_ne, beq_iff_eq, ne_eq, Decidable.not_not] at h1)
    refine AWp_seq ?_
    -- region 2 value.go:14
    refine AWp_regL ?_
    refine st rfl rfl rfl (op_loadK (cs := [_, _, _]) rfl Tryd.isAgg23 Tryd.sizeOf23 (by first | exact ldv_own rfl rfl | exact ldv_pp rfl | exact ldv_old (by assumption) rfl | exact ldv_ptr (by assumption) rfl)) ?_
    refine st rfl rfl rfl (op_buildP (cs := [_, _, _]) [(0, 1), (1, 1), (2, 1)] rfl Tryd.underlying23 Tryd.zeroValue23 ⟨rfl, Tryd.sizeOf4, ⟨rfl, Tryd.sizeOf9, ⟨rfl, Tryd.sizeOf3, trivial⟩⟩⟩ rfl rfl) ?_
    refine st rfl rfl rfl (op_eqS rfl Tryd.underlying23 (by kernel_rfl) (by kernel_rfl) (.bool _ _ _ _ _ _ _ _ (by decide) rfl Tryd.underlying4 (.str _ _ _ _ _ _ _ _ (by decide) rfl Tryd.underlying9 (.int _ _ _ _ _ _ _ _ _ _ (by decide) rfl Tryd.underlying3 (.nil _)))) rfl rfl) ?_
    refine st rfl rfl rfl (op_assignO rfl rfl) ?_
    refine AOps_nil ?_
    refine AWp_ret ?_
    (try simp only [blockQ, thenQ])
    refine ResQ_1 rfl hcl trivial (Ret_of ?_)
    refine bool_of ?_
    simp_all [NumMay] <;> omega
  · (try rw [h1]); (try simp only [decide_eq_true_eq, decide_eq_false_iff_not, Bool.not_eq_true', Bool.not_eq_false', Int.not_lt, Int.not_le, Bool.not_true, Bool.not_false, Int.toNat_natCast, bne_iff_ne, beq_iff_eq, ne_eq, Decidable.not_not] at h1)
    have hpos := ba_pos h1
    refine AWp_skip ?_
    refine AWp_seq ?_
    refine AWp_seq ?_
    -- region 3 value.go:16
    refine AWp_regL ?_
    refine st rfl rfl rfl (op_fieldAddrO (fo := 1) rfl Tryd.underlying23 rfl rfl Tryd.sizeOf9 (by decide) rfl trivial) ?_
    refine st rfl rfl rfl (op_load1 rfl Tryd.isAgg9 (by first | exact ldv_own rfl rfl | exact ldv_pp rfl | exact ldv_old (by assumption) rfl | exact ldv_ptr (by assumption) rfl)) ?_
    refine st rfl rfl rfl (op_strBytes rfl Tryd.underlying9 Tryd.underlying64 Tryd.underlying5 rfl) ?_
    refine st rfl rfl rfl (op_lenS rfl rfl Tryd.underlying64 rfl rfl trivial) ?_
    refine st rfl rfl rfl (op_moveO rfl rfl) ?_
    refine AOps_nil ?_
    refine AWp_block ?_
    -- loop 0 LIVE 1:box 2:assign 14:convert 15:call 16:move
    refine AWp_loop (ι := Nat) (fun i => i ≤ n.digits.size ∧ digs n.digits i) (fun i => ⟨[], [(1, .ptr (σ.length + 0) 0), (14, .sl false 1 (brows n.digits)), (15, .int .i64 (n.digits.size : Int)), (16, .int .i64 (i : Int))]⟩) (fun i => σ ++ [_]) (fun i => n.digits.size - i) (0) (⟨Nat.zero_le _, fun j hj => absurd hj (by omega)⟩) ?_ rfl (fun i hi => ?_)
    · refine ⟨rfl, rfl, rfl, ?_, rfl, trivial⟩
      rw [← brows_length]; rfl
    obtain ⟨hi1, hi2⟩ := hi
    refine AWp_seq ?_
    -- region 4 value.go:16
    refine AWp_regL ?_
    refine st rfl rfl rfl (op_lss rfl rfl rfl) ?_
    refine AOps_nil ?_
    refine AWp_seq ?_
    refine AWp_cond rfl (fun h2 => ?_) (fun h2 => ?_)
    · (try rw [h2]); (try simp only [decide_eq_true_eq, decide_eq_false_iff_not, Bool.not_eq_true', Bool.not_eq_false', Int.not_lt, Int.not_le, Bool.not_true, Bool.not_false, Int.toNat_natCast, bne_iff_ne, beq_iff_eq, ne_eq, Decidable.not_not] at h2)
      refine AWp_skip ?_
      refine AWp_seq ?_
      refine AWp_block ?_
      refine AWp_seq ?_
      -- region 5 value.go:16
      refine AWp_regL ?_
      refine st rfl rfl rfl ((by first | exact op_indexAddr rfl Tryd.underlying64 Tryd.sizeOf5 rfl rfl (by omega) (by first | exact lcells_get (by assumption) | exact mcells_get (by assumption) | exact brows_at (by omega) | assumption) | fail)) ?_
      refine st rfl rfl rfl (op_load1 rfl Tryd.isAgg5 (by first | exact ldv_own rfl rfl | exact ldv_pp rfl | exact ldv_old (by assumption) rfl | exact ldv_ptr (by assumption) rfl)) ?_
      refine st rfl rfl rfl (op_assignO rfl rfl) ?_
      refine AOps_nil ?_
      refine AWp_seq ?_
      -- region 6 value.go:17
      refine AWp_regL ?_
      refine st rfl rfl rfl (op_moveO rfl rfl) ?_
      refine st rfl rfl rfl (op_lss rfl rfl rfl) ?_
      refine st rfl rfl rfl (op_moveO rfl rfl) ?_
      refine AOps_split 22 rfl (fun h3 => ?_) (fun h3 => ?_)
      · rw [h3]; (try simp only [decide_eq_true_eq, decide_eq_false_iff_not, Bool.not_eq_true', Bool.not_eq_false', Int.not_lt, Int.not_le, Bool.not_true, Bool.not_false, Int.toNat_natCast, bne_iff_ne, beq_iff_eq, ne_eq, Decidable.not_not] at h3)
        have hnd : ¬ digs n.digits n.digits.size := fun hd => by have := hd i (by omega); simp only [dig] at this; omega
        refine stS rfl rfl rfl (.inl rfl) rfl rfl ?_
        refine stS rfl rfl rfl (.inl rfl) rfl rfl ?_
        refine st rfl rfl rfl (op_pickTO rfl rfl rfl) ?_
        refine AOps_nil ?_
        refine AWp_condT rfl ?_
        refine AWp_seq ?_
        -- region 7 value.go:18
        refine AWp_regL ?_
        refine st rfl rfl rfl (op_assignO rfl rfl) ?_
        refine AOps_nil ?_
        refine AWp_ret ?_
        (try simp only [blockQ, thenQ])
        refine ResQ_1 rfl hcl trivial (Ret_of ?_)
        refine bool_of ?_
        simp_all [NumMay] <;> omega
      · rw [h3]; (try simp only [decide_eq_true_eq, decide_eq_false_iff_not, Bool.not_eq_true', Bool.not_eq_false', Int.not_lt, Int.not_le, Bool.not_true, Bool.not_false, Int.toNat_natCast, bne_iff_ne, beq_iff_eq, ne_eq, Decidable.not_not] at h3)
        refine stG rfl rfl rfl rfl rfl rfl (op_moveO rfl rfl) ?_
        refine stG rfl rfl rfl rfl rfl rfl (op_gtr rfl rfl rfl) ?_
        refine st rfl rfl rfl (op_pickFO rfl rfl rfl) ?_
        refine AOps_nil ?_
        refine AWp_cond rfl (fun h4 => ?_) (fun h4 => ?_)
        · (try rw [h4]); (try simp only [decide_eq_true_eq, decide_eq_false_iff_not, Bool.not_eq_true', Bool.not_eq_false', Int.not_lt, Int.not_le, Bool.not_true, Bool.not_false, Int.toNat_natCast, bne_iff_ne, beq_iff_eq, ne_eq, Decidable.not_not] at h4)
          have hnd : ¬ digs n.digits n.digits.size := fun hd => by have := hd i (by omega); simp only [dig] at this; omega
          refine AWp_seq ?_
          -- region 7 value.go:18
          refine AWp_regL ?_
          refine st rfl rfl rfl (op_assignO rfl rfl) ?_
          refine AOps_nil ?_
          refine AWp_ret ?_
          (try simp only [blockQ, thenQ])
          refine ResQ_1 rfl hcl trivial (Ret_of ?_)
          refine bool_of ?_
          simp_all [NumMay] <;> omega
        · (try rw [h4]); (try simp only [decide_eq_true_eq, decide_eq_false_iff_not, Bool.not_eq_true', Bool.not_eq_false', Int.not_lt, Int.not_le, Bool.not_true, Bool.not_false, Int.toNat_natCast, bne_iff_ne, beq_iff_eq, ne_eq, Decidable.not_not] at h4)
          refine AWp_skip ?_
          -- region 8 value.go:16
          refine AWp_regL ?_
          refine st rfl rfl rfl (op_add64 rfl rfl rfl (by omega) (by omega)) ?_
          refine st rfl rfl rfl (op_moveO rfl rfl) ?_
          refine AOps_nil ?_
          refine ⟨i + 1, σ.length + 1, ⟨by omega, digs_succ.2 ⟨hi2, by simp only [dig]; omega⟩⟩, by omega, by simp, ⟨rfl, rfl, rfl, rfl, rfl, trivial⟩, closed_own 1 hcl ?_, ?_, take_own 1⟩
          · simp [ownLt, AO.cells, AV.ltL, AV.lt]
          · simp [ltE, AV.lt]
    · (try rw [h2]); (try simp only [decide_eq_true_eq, decide_eq_false_iff_not, Bool.not_eq_true', Bool.not_eq_false', Int.not_lt, Int.not_le, Bool.not_true, Bool.not_false, Int.toNat_natCast, bne_iff_ne, beq_iff_eq, ne_eq, Decidable.not_not] at h2)
      have hie : i = n.digits.size := by omega
      rw [hie] at hi2
      refine AWp_exit ?_
      refine AWp_seq ?_
      -- region 9 value.go:21
      refine AWp_regL ?_
      refine st rfl rfl rfl (op_fieldAddrO (fo := 1) rfl Tryd.underlying23 rfl rfl Tryd.sizeOf9 (by decide) rfl trivial) ?_
      refine st rfl rfl rfl (op_load1 rfl Tryd.isAgg9 (by first | exact ldv_own rfl rfl | exact ldv_pp rfl | exact ldv_old (by assumption) rfl | exact ldv_ptr (by assumption) rfl)) ?_
      refine st rfl rfl rfl (op_fieldAddrO (fo := 1) rfl Tryd.underlying23 rfl rfl Tryd.sizeOf9 (by decide) rfl trivial) ?_
      refine st rfl rfl rfl (op_load1 rfl Tryd.isAgg9 (by first | exact ldv_own rfl rfl | exact ldv_pp rfl | exact ldv_old (by assumption) rfl | exact ldv_ptr (by assumption) rfl)) ?_
      refine st rfl rfl rfl (op_lenStr rfl rfl Tryd.underlying9 rfl) ?_
      refine st rfl rfl rfl (op_sub64 rfl rfl rfl (by omega) (by omega)) ?_
      refine st rfl rfl rfl (op_index_strB rfl Tryd.underlying9 rfl rfl (by omega) (by omega)) ?_
      refine st rfl rfl rfl (op_assignO rfl rfl) ?_
      refine AOps_nil ?_
      refine AWp_seq ?_
      -- region 10 value.go:22
      refine AWp_regL ?_
      refine st rfl rfl rfl (op_fieldAddrO (fo := 1) rfl Tryd.underlying23 rfl rfl Tryd.sizeOf9 (by decide) rfl trivial) ?_
      refine st rfl rfl rfl (op_load1 rfl Tryd.isAgg9 (by first | exact ldv_own rfl rfl | exact ldv_pp rfl | exact ldv_old (by assumption) rfl | exact ldv_ptr (by assumption) rfl)) ?_
      refine st rfl rfl rfl (op_lenStr rfl rfl Tryd.underlying9 rfl) ?_
      refine st rfl rfl rfl (op_leq rfl rfl rfl) ?_
      refine st rfl rfl rfl (op_moveO rfl rfl) ?_
      refine AOps_split 38 rfl (fun h5 => ?_) (fun h5 => ?_)
      · rw [h5]; (try simp only [decide_eq_true_eq, decide_eq_false_iff_not, Bool.not_eq_true', Bool.not_eq_false', Int.not_lt, Int.not_le, Bool.not_true, Bool.not_false, Int.toNat_natCast, bne_iff_ne, beq_iff_eq, ne_eq, Decidable.not_not] at h5)
        refine stG rfl rfl rfl rfl rfl rfl (op_fieldAddrO (fo := 1) rfl Tryd.underlying23 rfl rfl Tryd.sizeOf9 (by decide) rfl trivial) ?_
        refine stG rfl rfl rfl rfl rfl rfl (op_load1 rfl Tryd.isAgg9 (by first | exact ldv_own rfl rfl | exact ldv_pp rfl | exact ldv_old (by assumption) rfl | exact ldv_ptr (by assumption) rfl)) ?_
        refine stG rfl rfl rfl rfl rfl rfl (op_index_strB rfl Tryd.underlying9 rfl rfl (by omega) (by omega)) ?_
        refine stG rfl rfl rfl rfl rfl rfl (op_neq rfl rfl rfl) ?_
        refine st rfl rfl rfl (op_pickTO rfl rfl rfl) ?_
        refine st rfl rfl rfl (op_moveO rfl rfl) ?_
        refine AOps_split 44 rfl (fun h6 => ?_) (fun h6 => ?_)
        · rw [h6]; (try simp only [decide_eq_true_eq, decide_eq_false_iff_not, Bool.not_eq_true', Bool.not_eq_false', Int.not_lt, Int.not_le, Bool.not_true, Bool.not_false, Int.toNat_natCast, bne_iff_ne, beq_iff_eq, ne_eq, Decidable.not_not] at h6)
          refine stG rfl rfl rfl rfl rfl rfl (op_moveO rfl rfl) ?_
          refine stG rfl rfl rfl rfl rfl rfl (op_neq rfl rfl rfl) ?_
          refine st rfl rfl rfl (op_pickTO rfl rfl rfl) ?_
          refine st rfl rfl rfl (op_moveO rfl rfl) ?_
          refine AOps_split 48 rfl (fun h7 => ?_) (fun h7 => ?_)
          · rw [h7]; (try simp only [decide_eq_true_eq, decide_eq_false_iff_not, Bool.not_eq_true', Bool.not_eq_false', Int.not_lt, Int.not_le, Bool.not_true, Bool.not_false, Int.toNat_natCast, bne_iff_ne, beq_iff_eq, ne_eq, Decidable.not_not] at h7)
            refine stG rfl rfl rfl rfl rfl rfl (op_fieldAddrO (fo := 2) rfl Tryd.underlying23 rfl rfl Tryd.sizeOf3 (by decide) rfl trivial) ?_
            refine stG rfl rfl rfl rfl rfl rfl (op_load1 rfl Tryd.isAgg3 (by first | exact ldv_own rfl rfl | exact ldv_pp rfl | exact ldv_old (by assumption) rfl | exact ldv_ptr (by assumption) rfl)) ?_
            refine stG rfl rfl rfl rfl rfl rfl (op_geq rfl rfl rfl) ?_
            refine st rfl rfl rfl (op_pickTO rfl rfl rfl) ?_
            refine st rfl rfl rfl (op_moveO rfl rfl) ?_
            refine AOps_split 53 rfl (fun h8 => ?_) (fun h8 => ?_)
            · rw [h8]; (try simp only [decide_eq_true_eq, decide_eq_false_iff_not, Bool.not_eq_true', Bool.not_eq_false', Int.not_lt, Int.not_le, Bool.not_true, Bool.not_false, Int.toNat_natCast, bne_iff_ne, beq_iff_eq, ne_eq, Decidable.not_not] at h8)
              refine stG rfl rfl rfl rfl rfl rfl (op_fieldAddrO (fo := 2) rfl Tryd.underlying23 rfl rfl Tryd.sizeOf3 (by decide) rfl trivial) ?_
              refine stG rfl rfl rfl rfl rfl rfl (op_load1 rfl Tryd.isAgg3 (by first | exact ldv_own rfl rfl | exact ldv_pp rfl | exact ldv_old (by assumption) rfl | exact ldv_ptr (by assumption) rfl)) ?_
              refine stG rfl rfl rfl rfl rfl rfl (op_leq rfl rfl rfl) ?_
              refine st rfl rfl rfl (op_pickTO rfl rfl rfl) ?_
              refine st rfl rfl rfl (op_assignO rfl rfl) ?_
              refine AOps_nil ?_
              refine AWp_ret ?_
              (try simp only [blockQ, thenQ])
              refine ResQ_1 rfl hcl trivial (Ret_of ?_)
              refine bool_of ?_
              simp_all [NumMay] <;> omega
            · rw [h8]; (try simp only [decide_eq_true_eq, decide_eq_false_iff_not, Bool.not_eq_true', Bool.not_eq_false', Int.not_lt, Int.not_le, Bool.not_true, Bool.not_false, Int.toNat_natCast, bne_iff_ne, beq_iff_eq, ne_eq, Decidable.not_not] at h8)
              refine stS rfl rfl rfl (.inl rfl) rfl rfl ?_
              refine stS rfl rfl rfl (.inl rfl) rfl rfl ?_
              refine stS rfl rfl rfl (.inl rfl) rfl rfl ?_
              refine st rfl rfl rfl (op_pickFO rfl rfl rfl) ?_
              refine st rfl rfl rfl (op_assignO rfl rfl) ?_
              refine AOps_nil ?_
              refine AWp_ret ?_
              (try simp only [blockQ, thenQ])
              refine ResQ_1 rfl hcl trivial (Ret_of ?_)
              refine bool_of ?_
              simp_all [NumMay] <;> omega
          · rw [h7]; (try simp only [decide_eq_true_eq, decide_eq_false_iff_not, Bool.not_eq_true', Bool.not_eq_false', Int.not_lt, Int.not_le, Bool.not_true, Bool.not_false, Int.toNat_natCast, bne_iff_ne, beq_iff_eq, ne_eq, Decidable.not_not] at h7)
            refine stS rfl rfl rfl (.inl rfl) rfl rfl ?_
            refine stS rfl rfl rfl (.inl rfl) rfl rfl ?_
            refine stS rfl rfl rfl (.inl rfl) rfl rfl ?_
            refine st rfl rfl rfl (op_pickFO rfl rfl rfl) ?_
            refine st rfl rfl rfl (op_moveO rfl rfl) ?_
            refine stS rfl rfl rfl (.inl rfl) rfl rfl ?_
            refine stS rfl rfl rfl (.inl rfl) rfl rfl ?_
            refine stS rfl rfl rfl (.inl rfl) rfl rfl ?_
            refine st rfl rfl rfl (op_pickFO rfl rfl rfl) ?_
            refine st rfl rfl rfl (op_assignO rfl rfl) ?_
            refine AOps_nil ?_
            refine AWp_ret ?_
            (try simp only [blockQ, thenQ])
            refine ResQ_1 rfl hcl trivial (Ret_of ?_)
            refine bool_of ?_
            simp_all [NumMay] <;> omega
        · rw [h6]; (try simp only [decide_eq_true_eq, decide_eq_false_iff_not, Bool.not_eq_true', Bool.not_eq_false', Int.not_lt, Int.not_le, Bool.not_true, Bool.not_false, Int.toNat_natCast, bne_iff_ne, beq_iff_eq, ne_eq, Decidable.not_not] at h6)
          refine stS rfl rfl rfl (.inl rfl) rfl rfl ?_
          refine stS rfl rfl rfl (.inl rfl) rfl rfl ?_
          refine st rfl rfl rfl (op_pickFO rfl rfl rfl) ?_
          refine st rfl rfl rfl (op_moveO rfl rfl) ?_
          refine stS rfl rfl rfl (.inl rfl) rfl rfl ?_
          refine stS rfl rfl rfl (.inl rfl) rfl rfl ?_
          refine stS rfl rfl rfl (.inl rfl) rfl rfl ?_
          refine st rfl rfl rfl (op_pickFO rfl rfl rfl) ?_
          refine st rfl rfl rfl (op_moveO rfl rfl) ?_
          refine stS rfl rfl rfl (.inl rfl) rfl rfl ?_
          refine stS rfl rfl rfl (.inl rfl) rfl rfl ?_
          refine stS rfl rfl rfl (.inl rfl) rfl rfl ?_
          refine st rfl rfl rfl (op_pickFO rfl rfl rfl) ?_
          refine st rfl rfl rfl (op_assignO rfl rfl) ?_
          refine AOps_nil ?_
          refine AWp_ret ?_
          (try simp only [blockQ, thenQ])
          refine ResQ_1 rfl hcl trivial (Ret_of ?_)
          refine bool_of ?_
          simp_all [NumMay] <;> omega
      · rw [h5]; (try simp only [decide_eq_true_eq, decide_eq_false_iff_not, Bool.not_eq_true', Bool.not_eq_false', Int.not_lt, Int.not_le, Bool.not_true, Bool.not_false, Int.toNat_natCast, bne_iff_ne, beq_iff_eq, ne_eq, Decidable.not_not] at h5)
        refine stS rfl rfl rfl (.inl rfl) rfl rfl ?_
        refine stS rfl rfl rfl (.inl rfl) rfl rfl ?_
        refine stS rfl rfl rfl (.inl rfl) rfl rfl ?_
        refine stS rfl rfl rfl (.inl rfl) rfl rfl ?_
        refine st rfl rfl rfl (op_pickFO rfl rfl rfl) ?_
        refine st rfl rfl rfl (op_moveO rfl rfl) ?_
        refine stS rfl rfl rfl (.inl rfl) rfl rfl ?_
        refine stS rfl rfl rfl (.inl rfl) rfl rfl ?_
        refine st rfl rfl rfl (op_pickFO rfl rfl rfl) ?_
        refine st rfl rfl rfl (op_moveO rfl rfl) ?_
        refine stS rfl rfl rfl (.inl rfl) rfl rfl ?_
        refine stS rfl rfl rfl (.inl rfl) rfl rfl ?_
        refine stS rfl rfl rfl (.inl rfl) rfl rfl ?_
        refine st rfl rfl rfl (op_pickFO rfl rfl rfl) ?_
        refine st rfl rfl rfl (op_moveO rfl rfl) ?_
        refine stS rfl rfl rfl (.inl rfl) rfl rfl ?_
        refine stS rfl rfl rfl (.inl rfl) rfl rfl ?_
        refine stS rfl rfl rfl (.inl rfl) rfl rfl ?_
        refine st rfl rfl rfl (op_pickFO rfl rfl rfl) ?_
        refine st rfl rfl rfl (op_assignO rfl rfl) ?_
        refine AOps_nil ?_
        refine AWp_ret ?_
        (try simp only [blockQ, thenQ])
        refine ResQ_1 rfl hcl trivial (Ret_of ?_)
        refine bool_of ?_
        simp_all [NumMay] <;> omega

theorem run_c (s : ByteArray) (a : Int) (σ : List AO) (hs : s.size ≤ 1000000000) (h0 : 0 ≤ a) (ha : a ≤ 1000000000) : ACalls Tryd.prog 51 [.str s, .int .i64 a] σ (Ret (.int .i64 (runl s a.toNat : Int)) σ) := by
  refine ACalls_body Tryd.func51 rfl Tryd.ntmps51 (res1 Tryd.results51) (Nat.le_of_ble_eq_true rfl) (fun hcl hal => ?_)
  refine AWp_seq ?_
  -- region 0 ref.go:7
  refine AWp_regL ?_
  refine st rfl rfl rfl (op_assignO rfl rfl) ?_
  refine AOps_nil ?_
  refine AWp_seq ?_
  -- region 1 ref.go:8
  refine AWp_regL ?_
  refine st rfl rfl rfl (op_assignO rfl rfl) ?_
  refine AOps_nil ?_
  refine AWp_seq ?_
  refine AWp_block ?_
  -- loop 0 LIVE 0:param 1:param 4:assign 5:assign
  refine AWp_loop (ι := Nat) (fun i => i + runl s (a.toNat + i) = runl s a.toNat) (fun i => ⟨[], [(0, .str s), (1, .int .i64 a), (5, .int .i64 (i : Int))]⟩) (fun i => σ) (fun i => s.size - (a.toNat + i)) (0) (by simp) ?_ rfl (fun i hi => ?_)
  · refine ⟨rfl, rfl, rfl, rfl, trivial⟩
  have hle := runl_le s (a.toNat + i)
  have hle0 := runl_le s a.toNat
  have hto : (a + (i : Int)).toNat = a.toNat + i := by omega
  refine AWp_seq ?_
  refine AWp_seq ?_
  -- region 2 ref.go:9
  refine AWp_regL ?_
  refine st rfl rfl rfl (op_moveO rfl rfl) ?_
  refine st rfl rfl rfl (op_moveO rfl rfl) ?_
  refine st rfl rfl rfl (op_add64 rfl rfl rfl (by omega) (by omega)) ?_
  refine st rfl rfl rfl (op_moveO rfl rfl) ?_
  refine st rfl rfl rfl (op_lenStr rfl rfl Tryd.underlying9 rfl) ?_
  refine st rfl rfl rfl (op_lss rfl rfl rfl) ?_
  refine st rfl rfl rfl (op_moveO rfl rfl) ?_
  refine AOps_split 12 rfl (fun h1 => ?_) (fun h1 => ?_)
  · rw [h1]; (try simp only [decide_eq_true_eq, decide_eq_false_iff_not, Bool.not_eq_true', Bool.not_eq_false', Int.not_lt, Int.not_le, Bool.not_true, Bool.not_false, Int.toNat_natCast, bne_iff_ne, beq_iff_eq, ne_eq, Decidable.not_not] at h1)
    refine stG rfl rfl rfl rfl rfl rfl (op_moveO rfl rfl) ?_
    refine stG rfl rfl rfl rfl rfl rfl (op_moveO rfl rfl) ?_
    refine stG rfl rfl rfl rfl rfl rfl (op_moveO rfl rfl) ?_
    refine stG rfl rfl rfl rfl rfl rfl (op_add64 rfl rfl rfl (by omega) (by omega)) ?_
    refine stG rfl rfl rfl rfl rfl rfl (op_index_strB rfl Tryd.underlying9 rfl rfl (by omega) (by omega)) ?_
    refine stG rfl rfl rfl rfl rfl rfl (op_geq rfl rfl rfl) ?_
    refine st rfl rfl rfl (op_pickTO rfl rfl rfl) ?_
    refine st rfl rfl rfl (op_moveO rfl rfl) ?_
    refine AOps_split 20 rfl (fun h2 => ?_) (fun h2 => ?_)
    · rw [h2]; (try simp only [decide_eq_true_eq, decide_eq_false_iff_not, Bool.not_eq_true', Bool.not_eq_false', Int.not_lt, Int.not_le, Bool.not_true, Bool.not_false, Int.toNat_natCast, bne_iff_ne, beq_iff_eq, ne_eq, Decidable.not_not] at h2)
      refine stG rfl rfl rfl rfl rfl rfl (op_moveO rfl rfl) ?_
      refine stG rfl rfl rfl rfl rfl rfl (op_moveO rfl rfl) ?_
      refine stG rfl rfl rfl rfl rfl rfl (op_moveO rfl rfl) ?_
      refine stG rfl rfl rfl rfl rfl rfl (op_add64 rfl rfl rfl (by omega) (by omega)) ?_
      refine stG rfl rfl rfl rfl rfl rfl (op_index_strB rfl Tryd.underlying9 rfl rfl (by omega) (by omega)) ?_
      refine stG rfl rfl rfl rfl rfl rfl (op_leq rfl rfl rfl) ?_
      refine st rfl rfl rfl (op_pickTO rfl rfl rfl) ?_
      refine AOps_nil ?_
      refine AWp_cond rfl (fun h3 => ?_) (fun h3 => ?_)
      · (try rw [h3]); (try simp only [decide_eq_true_eq, decide_eq_false_iff_not, Bool.not_eq_true', Bool.not_eq_false', Int.not_lt, Int.not_le, Bool.not_true, Bool.not_false, Int.toNat_natCast, bne_iff_ne, beq_iff_eq, ne_eq, Decidable.not_not] at h3)
        refine AWp_skip ?_
        refine AWp_block ?_
        -- region 3 ref.go:10
        refine AWp_regL ?_
        refine st rfl rfl rfl (op_moveO rfl rfl) ?_
        refine st rfl rfl rfl (op_add64 rfl rfl rfl (by omega) (by omega)) ?_
        refine st rfl rfl rfl (op_assignO rfl rfl) ?_
        refine AOps_nil ?_
        (try simp only [hto] at *)
        have hd : dig s (a.toNat + i) := by simp only [dig]; omega
        have hr := runl_yes (by omega) hd
        refine ⟨i + 1, σ.length, by rw [← Nat.add_assoc]; omega, by omega, Nat.le_refl _, ⟨rfl, rfl, rfl, rfl, trivial⟩, hcl, ?_, List.take_length⟩
        simp [ltE, AV.lt]
      · (try rw [h3]); (try simp only [decide_eq_true_eq, decide_eq_false_iff_not, Bool.not_eq_true', Bool.not_eq_false', Int.not_lt, Int.not_le, Bool.not_true, Bool.not_false, Int.toNat_natCast, bne_iff_ne, beq_iff_eq, ne_eq, Decidable.not_not] at h3)
        refine AWp_exit ?_
        refine AWp_seq ?_
        -- region 4 ref.go:12
        refine AWp_regL ?_
        refine st rfl rfl rfl (op_moveO rfl rfl) ?_
        refine st rfl rfl rfl (op_assignO rfl rfl) ?_
        refine AOps_nil ?_
        refine AWp_ret ?_
        (try simp only [blockQ, thenQ])
        (try simp only [hto] at *)
        have hr := runl_no (b := s) (i := a.toNat + i) (by simp only [dig]; omega)
        refine ResQ_10 rfl hcl trivial (Ret_of ?_)
        congr 1; omega
    · rw [h2]; (try simp only [decide_eq_true_eq, decide_eq_false_iff_not, Bool.not_eq_true', Bool.not_eq_false', Int.not_lt, Int.not_le, Bool.not_true, Bool.not_false, Int.toNat_natCast, bne_iff_ne, beq_iff_eq, ne_eq, Decidable.not_not] at h2)
      refine stS rfl rfl rfl (.inl rfl) rfl rfl ?_
      refine stS rfl rfl rfl (.inl rfl) rfl rfl ?_
      refine stS rfl rfl rfl (.inl rfl) rfl rfl ?_
      refine stS rfl rfl rfl (.inl rfl) rfl rfl ?_
      refine stS rfl rfl rfl (.inl rfl) rfl rfl ?_
      refine stS rfl rfl rfl (.inl rfl) rfl rfl ?_
      refine st rfl rfl rfl (op_pickFO rfl rfl rfl) ?_
      refine AOps_nil ?_
      refine AWp_condF rfl ?_
      refine AWp_exit ?_
      refine AWp_seq ?_
      -- region 4 ref.go:12
      refine AWp_regL ?_
      refine st rfl rfl rfl (op_moveO rfl rfl) ?_
      refine st rfl rfl rfl (op_assignO rfl rfl) ?_
      refine AOps_nil ?_
      refine AWp_ret ?_
      (try simp only [blockQ, thenQ])
      (try simp only [hto] at *)
      have hr := runl_no (b := s) (i := a.toNat + i) (by simp only [dig]; omega)
      refine ResQ_10 rfl hcl trivial (Ret_of ?_)
      congr 1; omega
  · rw [h1]; (try simp only [decide_eq_true_eq, decide_eq_false_iff_not, Bool.not_eq_true', Bool.not_eq_false', Int.not_lt, Int.not_le, Bool.not_true, Bool.not_false, Int.toNat_natCast, bne_iff_ne, beq_iff_eq, ne_eq, Decidable.not_not] at h1)
    refine stS rfl rfl rfl (.inl rfl) rfl rfl ?_
    refine stS rfl rfl rfl (.inl rfl) rfl rfl ?_
    refine stS rfl rfl rfl (.inl rfl) rfl rfl ?_
    refine stS rfl rfl rfl (.inl rfl) rfl rfl ?_
    refine stS rfl rfl rfl (.inl rfl) rfl rfl ?_
    refine stS rfl rfl rfl (.inl rfl) rfl rfl ?_
    refine st rfl rfl rfl (op_pickFO rfl rfl rfl) ?_
    refine st rfl rfl rfl (op_moveO rfl rfl) ?_
    refine stS rfl rfl rfl (.inl rfl) rfl rfl ?_
    refine stS rfl rfl rfl (.inl rfl) rfl rfl ?_
    refine stS rfl rfl rfl (.inl rfl) rfl rfl ?_
    refine stS rfl rfl rfl (.inl rfl) rfl rfl ?_
    refine stS rfl rfl rfl (.inl rfl) rfl rfl ?_
    refine stS rfl rfl rfl (.inl rfl) rfl rfl ?_
    refine st rfl rfl rfl (op_pickFO rfl rfl rfl) ?_
    refine AOps_nil ?_
    refine AWp_condF rfl ?_
    refine AWp_exit ?_
    refine AWp_seq ?_
    -- region 4 ref.go:12
    refine AWp_regL ?_
    refine st rfl rfl rfl (op_moveO rfl rfl) ?_
    refine st rfl rfl rfl (op_assignO rfl rfl) ?_
    refine AOps_nil ?_
    refine AWp_ret ?_
    (try simp only [blockQ, thenQ])
    (try simp only [hto] at *)
    have hr := runl_no (b := s) (i := a.toNat + i) (by simp only [dig]; omega)
    refine ResQ_10 rfl hcl trivial (Ret_of ?_)
    congr 1; omega

theorem mayNum_c (n : JNum) (σ : List AO) (hn : n.digits.size ≤ 1000000000) : ACalls Tryd.prog 33 [.agg (ncells n)] σ (Ret (.bool (pb (NumMay n))) σ) := by
  refine ACalls_body Tryd.func33 rfl Tryd.ntmps33 (res1 Tryd.results33) (Nat.le_of_ble_eq_true rfl) (fun hcl hal => ?_)
  have hr0 := runl0 n.digits
  refine AWp_seq ?_
  -- region 0 ref.go:125
  refine AWp_regL ?_
  refine st rfl rfl rfl (op_box0 (cs := [_, _, _]) rfl rfl rfl) ?_
  refine st rfl rfl rfl (op_assignO rfl rfl) ?_
  refine AOps_nil ?_
  refine AWp_seq ?_
  refine AWp_seq ?_
  -- region 1 ref.go:126
  refine AWp_regL ?_
  refine st rfl rfl rfl (op_fieldAddrO (fo := 1) rfl Tryd.underlying23 rfl rfl Tryd.sizeOf9 (by decide) rfl trivial) ?_
  refine st rfl rfl rfl (op_load1 rfl Tryd.isAgg9 (by first | exact ldv_own rfl rfl | exact ldv_pp rfl | exact ldv_old (by assumption) rfl | exact ldv_ptr (by assumption) rfl)) ?_
  refine st rfl rfl rfl (op_seql rfl rfl rfl) ?_
  refine AOps_nil ?_
  refine AWp_cond rfl (fun h1 => ?_) (fun h1 => ?_)
  · (try rw [h1]); (try simp only [decide_eq_true_eq, decide_eq_false_iff_not, Bool.not_eq_true', Bool.not_eq_false', Int.not_lt, Int.not_le, Bool.not_true, Bool.not_false, Int.toNat_natCast, bne_iff_ne, beq_iff_eq, ne_eq, Decidable.not_not] at h1)
    refine AWp_seq ?_
    -- region 2 ref.go:127
    refine AWp_regL ?_
    refine st rfl rfl rfl (op_fieldAddrO (fo := 0) rfl Tryd.underlying23 rfl rfl Tryd.sizeOf4 (by decide) rfl trivial) ?_
    refine st rfl rfl rfl (op_load1 rfl Tryd.isAgg4 (by first | exact ldv_own rfl rfl | exact ldv_pp rfl | exact ldv_old (by assumption) rfl | exact ldv_ptr (by assumption) rfl)) ?_
    refine st rfl rfl rfl (op_not rfl rfl) ?_
    refine st rfl rfl rfl (op_moveO rfl rfl) ?_
    refine AOps_split 9 rfl (fun h2 => ?_) (fun h2 => ?_)
    · rw [h2]; (try simp only [decide_eq_true_eq, decide_eq_false_iff_not, Bool.not_eq_true', Bool.not_eq_false', Int.not_lt, Int.not_le, Bool.not_true, Bool.not_false, Int.toNat_natCast, bne_iff_ne, beq_iff_eq, ne_eq, Decidable.not_not] at h2)
      refine stG rfl rfl rfl rfl rfl rfl (op_fieldAddrO (fo := 2) rfl Tryd.underlying23 rfl rfl Tryd.sizeOf3 (by decide) rfl trivial) ?_
      refine stG rfl rfl rfl rfl rfl rfl (op_load1 rfl Tryd.isAgg3 (by first | exact ldv_own rfl rfl | exact ldv_pp rfl | exact ldv_old (by assumption) rfl | exact ldv_ptr (by assumption) rfl)) ?_
      refine stG rfl rfl rfl rfl rfl rfl (op_eql rfl rfl rfl) ?_
      refine st rfl rfl rfl (op_pickTO rfl rfl rfl) ?_
      refine st rfl rfl rfl (op_assignO rfl rfl) ?_
      refine AOps_nil ?_
      refine AWp_ret ?_
      (try simp only [blockQ, thenQ])
      refine ResQ_1 rfl hcl trivial (Ret_of ?_)
      refine bool_of ?_
      by_cases hd : digs n.digits n.digits.size
      · have hd2 := hr0.2 hd; simp_all [NumMay] <;> omega
      · have hd2 := mt hr0.1 hd; simp_all [NumMay] <;> omega
    · rw [h2]; (try simp only [decide_eq_true_eq, decide_eq_false_iff_not, Bool.not_eq_true', Bool.not_eq_false', Int.not_lt, Int.not_le, Bool.not_true, Bool.not_false, Int.toNat_natCast, bne_iff_ne, beq_iff_eq, ne_eq, Decidable.not_not] at h2)
      refine stS rfl rfl rfl (.inl rfl) rfl rfl ?_
      refine stS rfl rfl rfl (.inl rfl) rfl rfl ?_
      refine stS rfl rfl rfl (.inl rfl) rfl rfl ?_
      refine st rfl rfl rfl (op_pickFO rfl rfl rfl) ?_
      refine st rfl rfl rfl (op_assignO rfl rfl) ?_
      refine AOps_nil ?_
      refine AWp_ret ?_
      (try simp only [blockQ, thenQ])
      refine ResQ_1 rfl hcl trivial (Ret_of ?_)
      refine bool_of ?_
      by_cases hd : digs n.digits n.digits.size
      · have hd2 := hr0.2 hd; simp_all [NumMay] <;> omega
      · have hd2 := mt hr0.1 hd; simp_all [NumMay] <;> omega
  · (try rw [h1]); (try simp only [decide_eq_true_eq, decide_eq_false_iff_not, Bool.not_eq_true', Bool.not_eq_false', Int.not_lt, Int.not_le, Bool.not_true, Bool.not_false, Int.toNat_natCast, bne_iff_ne, beq_iff_eq, ne_eq, Decidable.not_not] at h1)
    have hpos := ba_pos h1
    refine AWp_skip ?_
    refine AWp_seq ?_
    refine AWp_seq ?_
    -- region 3 ref.go:129 DRAWN
    refine AWp_drawL #[0, 1, 3, 7, 15, 31, 63, 127, 255, 511, 1023, 2047, 4095, 8191, 16383, 32767, 65535, 131071, 32767, 294911, 819199, 2097151, 4194303] Tryd.mixed (by decide +kernel) (by decide +kernel) ?_
    refine rA rfl rfl rfl rfl (fun _ => op_fieldAddrO (fo := 1) rfl Tryd.underlying23 rfl rfl Tryd.sizeOf9 (by decide) rfl trivial) ?_
    refine rP rfl rfl rfl rfl (op_load1 rfl Tryd.isAgg9 (by first | exact ldv_own rfl rfl | exact ldv_pp rfl | exact ldv_old (by assumption) rfl | exact ldv_ptr (by assumption) rfl)) (trivial) ?_
    refine rA rfl rfl rfl rfl (fun _ => op_lenStr rfl rfl Tryd.underlying9 rfl) ?_
    refine rA rfl rfl rfl rfl (fun _ => op_gtr rfl rfl rfl) ?_
    refine rA rfl rfl rfl rfl (fun _ => op_moveO rfl rfl) ?_
    refine RP_split 18 rfl (fun h3 => ?_) (fun h3 => ?_)
    · rw [h3]; (try simp only [decide_eq_true_eq, decide_eq_false_iff_not, Bool.not_eq_true', Bool.not_eq_false', Int.not_lt, Int.not_le, Bool.not_true, Bool.not_false, Int.toNat_natCast, bne_iff_ne, beq_iff_eq, ne_eq, Decidable.not_not] at h3)
      refine rS rfl rfl rfl rfl (.inl rfl) rfl rfl ?_
      refine rS rfl rfl rfl rfl (.inl rfl) rfl rfl ?_
      refine rS rfl rfl rfl rfl (.inl rfl) rfl rfl ?_
      refine rA rfl rfl rfl rfl (fun _ => op_pickTO rfl rfl rfl) ?_
      refine rA rfl rfl rfl rfl (fun _ => op_moveO rfl rfl) ?_
      refine rS rfl rfl rfl rfl (.inl rfl) rfl rfl ?_
      refine rS rfl rfl rfl rfl (.inl rfl) rfl rfl ?_
      refine rS rfl rfl rfl rfl (.inl rfl) rfl rfl ?_
      refine rA rfl rfl rfl rfl (fun _ => op_pickTO rfl rfl rfl) ?_
      refine rA rfl rfl rfl rfl (fun _ => op_moveO rfl rfl) ?_
      refine rS rfl rfl rfl rfl (.inl rfl) rfl rfl ?_
      refine rS rfl rfl rfl rfl (.inl rfl) rfl rfl ?_
      refine rS rfl rfl rfl rfl (.inl rfl) rfl rfl ?_
      refine rS rfl rfl rfl rfl (.inl rfl) rfl rfl ?_
      refine rS rfl rfl rfl rfl (.inl rfl) rfl rfl ?_
      refine rS rfl rfl rfl rfl (.inl rfl) rfl rfl ?_
      refine rS rfl rfl rfl rfl (.inl rfl) rfl rfl ?_
      refine rA rfl rfl rfl rfl (fun _ => op_pickTO rfl rfl rfl) ?_
      refine RP.nil rfl ?_
      refine AWp_condT rfl ?_
      refine AWp_seq ?_
      -- region 4 ref.go:130
      refine AWp_regL ?_
      refine st rfl rfl rfl (op_assignO rfl rfl) ?_
      refine AOps_nil ?_
      refine AWp_ret ?_
      (try simp only [blockQ, thenQ])
      refine ResQ_1 rfl hcl trivial (Ret_of ?_)
      refine bool_of ?_
      by_cases hd : digs n.digits n.digits.size
      · have hd2 := hr0.2 hd; simp_all [NumMay] <;> omega
      · have hd2 := mt hr0.1 hd; simp_all [NumMay] <;> omega
    · rw [h3]; (try simp only [decide_eq_true_eq, decide_eq_false_iff_not, Bool.not_eq_true', Bool.not_eq_false', Int.not_lt, Int.not_le, Bool.not_true, Bool.not_false, Int.toNat_natCast, bne_iff_ne, beq_iff_eq, ne_eq, Decidable.not_not] at h3)
      refine rAG rfl rfl rfl rfl rfl rfl rfl (fun _ => op_fieldAddrO (fo := 2) rfl Tryd.underlying23 rfl rfl Tryd.sizeOf3 (by decide) rfl trivial) ?_
      refine rPG rfl rfl rfl rfl rfl rfl rfl (op_load1 rfl Tryd.isAgg3 (by first | exact ldv_own rfl rfl | exact ldv_pp rfl | exact ldv_old (by assumption) rfl | exact ldv_ptr (by assumption) rfl)) (trivial) ?_
      refine rAG rfl rfl rfl rfl rfl rfl rfl (fun _ => op_lss rfl rfl rfl) ?_
      refine rA rfl rfl rfl rfl (fun _ => op_pickFO rfl rfl rfl) ?_
      refine rA rfl rfl rfl rfl (fun _ => op_moveO rfl rfl) ?_
      refine RP_split 23 rfl (fun h4 => ?_) (fun h4 => ?_)
      · rw [h4]; (try simp only [decide_eq_true_eq, decide_eq_false_iff_not, Bool.not_eq_true', Bool.not_eq_false', Int.not_lt, Int.not_le, Bool.not_true, Bool.not_false, Int.toNat_natCast, bne_iff_ne, beq_iff_eq, ne_eq, Decidable.not_not] at h4)
        refine rS rfl rfl rfl rfl (.inl rfl) rfl rfl ?_
        refine rS rfl rfl rfl rfl (.inl rfl) rfl rfl ?_
        refine rS rfl rfl rfl rfl (.inl rfl) rfl rfl ?_
        refine rA rfl rfl rfl rfl (fun _ => op_pickTO rfl rfl rfl) ?_
        refine rA rfl rfl rfl rfl (fun _ => op_moveO rfl rfl) ?_
        refine rS rfl rfl rfl rfl (.inl rfl) rfl rfl ?_
        refine rS rfl rfl rfl rfl (.inl rfl) rfl rfl ?_
        refine rS rfl rfl rfl rfl (.inl rfl) rfl rfl ?_
        refine rS rfl rfl rfl rfl (.inl rfl) rfl rfl ?_
        refine rS rfl rfl rfl rfl (.inl rfl) rfl rfl ?_
        refine rS rfl rfl rfl rfl (.inl rfl) rfl rfl ?_
        refine rS rfl rfl rfl rfl (.inl rfl) rfl rfl ?_
        refine rA rfl rfl rfl rfl (fun _ => op_pickTO rfl rfl rfl) ?_
        refine RP.nil rfl ?_
        refine AWp_condT rfl ?_
        refine AWp_seq ?_
        -- region 4 ref.go:130
        refine AWp_regL ?_
        refine st rfl rfl rfl (op_assignO rfl rfl) ?_
        refine AOps_nil ?_
        refine AWp_ret ?_
        (try simp only [blockQ, thenQ])
        refine ResQ_1 rfl hcl trivial (Ret_of ?_)
        refine bool_of ?_
        by_cases hd : digs n.digits n.digits.size
        · have hd2 := hr0.2 hd; simp_all [NumMay] <;> omega
        · have hd2 := mt hr0.1 hd; simp_all [NumMay] <;> omega
      · rw [h4]; (try simp only [decide_eq_true_eq, decide_eq_false_iff_not, Bool.not_eq_true', Bool.not_eq_false', Int.not_lt, Int.not_le, Bool.not_true, Bool.not_false, Int.toNat_natCast, bne_iff_ne, beq_iff_eq, ne_eq, Decidable.not_not] at h4)
        refine rAG rfl rfl rfl rfl rfl rfl rfl (fun _ => op_fieldAddrO (fo := 2) rfl Tryd.underlying23 rfl rfl Tryd.sizeOf3 (by decide) rfl trivial) ?_
        refine rPG rfl rfl rfl rfl rfl rfl rfl (op_load1 rfl Tryd.isAgg3 (by first | exact ldv_own rfl rfl | exact ldv_pp rfl | exact ldv_old (by assumption) rfl | exact ldv_ptr (by assumption) rfl)) (trivial) ?_
        refine rAG rfl rfl rfl rfl rfl rfl rfl (fun _ => op_gtr rfl rfl rfl) ?_
        refine rA rfl rfl rfl rfl (fun _ => op_pickFO rfl rfl rfl) ?_
        refine rA rfl rfl rfl rfl (fun _ => op_moveO rfl rfl) ?_
        refine RP_split 28 rfl (fun h5 => ?_) (fun h5 => ?_)
        · rw [h5]; (try simp only [decide_eq_true_eq, decide_eq_false_iff_not, Bool.not_eq_true', Bool.not_eq_false', Int.not_lt, Int.not_le, Bool.not_true, Bool.not_false, Int.toNat_natCast, bne_iff_ne, beq_iff_eq, ne_eq, Decidable.not_not] at h5)
          refine rS rfl rfl rfl rfl (.inl rfl) rfl rfl ?_
          refine rS rfl rfl rfl rfl (.inl rfl) rfl rfl ?_
          refine rS rfl rfl rfl rfl (.inl rfl) rfl rfl ?_
          refine rS rfl rfl rfl rfl (.inl rfl) rfl rfl ?_
          refine rS rfl rfl rfl rfl (.inl rfl) rfl rfl ?_
          refine rS rfl rfl rfl rfl (.inl rfl) rfl rfl ?_
          refine rS rfl rfl rfl rfl (.inl rfl) rfl rfl ?_
          refine rA rfl rfl rfl rfl (fun _ => op_pickTO rfl rfl rfl) ?_
          refine RP.nil rfl ?_
          refine AWp_condT rfl ?_
          refine AWp_seq ?_
          -- region 4 ref.go:130
          refine AWp_regL ?_
          refine st rfl rfl rfl (op_assignO rfl rfl) ?_
          refine AOps_nil ?_
          refine AWp_ret ?_
          (try simp only [blockQ, thenQ])
          refine ResQ_1 rfl hcl trivial (Ret_of ?_)
          refine bool_of ?_
          by_cases hd : digs n.digits n.digits.size
          · have hd2 := hr0.2 hd; simp_all [NumMay] <;> omega
          · have hd2 := mt hr0.1 hd; simp_all [NumMay] <;> omega
        · rw [h5]; (try simp only [decide_eq_true_eq, decide_eq_false_iff_not, Bool.not_eq_true', Bool.not_eq_false', Int.not_lt, Int.not_le, Bool.not_true, Bool.not_false, Int.toNat_natCast, bne_iff_ne, beq_iff_eq, ne_eq, Decidable.not_not] at h5)
          refine rAG rfl rfl rfl rfl rfl rfl rfl (fun _ => op_fieldAddrO (fo := 1) rfl Tryd.underlying23 rfl rfl Tryd.sizeOf9 (by decide) rfl trivial) ?_
          refine rPG rfl rfl rfl rfl rfl rfl rfl (op_load1 rfl Tryd.isAgg9 (by first | exact ldv_own rfl rfl | exact ldv_pp rfl | exact ldv_old (by assumption) rfl | exact ldv_ptr (by assumption) rfl)) (trivial) ?_
          refine rPG rfl rfl rfl rfl rfl rfl rfl (op_callF rfl rfl rfl Tryd.func51 rfl rfl (run_c _ _ _ hn (by omega) (by omega))) (trivial) ?_
          refine rAG rfl rfl rfl rfl rfl rfl rfl (fun _ => op_fieldAddrO (fo := 1) rfl Tryd.underlying23 rfl rfl Tryd.sizeOf9 (by decide) rfl trivial) ?_
          refine rPG rfl rfl rfl rfl rfl rfl rfl (op_load1 rfl Tryd.isAgg9 (by first | exact ldv_own rfl rfl | exact ldv_pp rfl | exact ldv_old (by assumption) rfl | exact ldv_ptr (by assumption) rfl)) (trivial) ?_
          refine rAG rfl rfl rfl rfl rfl rfl rfl (fun _ => op_lenStr rfl rfl Tryd.underlying9 rfl) ?_
          refine rAG rfl rfl rfl rfl rfl rfl rfl (fun _ => op_neq rfl rfl rfl) ?_
          refine rA rfl rfl rfl rfl (fun _ => op_pickFO rfl rfl rfl) ?_
          refine RP.nil rfl ?_
          refine AWp_cond rfl (fun h6 => ?_) (fun h6 => ?_)
          · (try rw [h6]); (try simp only [decide_eq_true_eq, decide_eq_false_iff_not, Bool.not_eq_true', Bool.not_eq_false', Int.not_lt, Int.not_le, Bool.not_true, Bool.not_false, Int.toNat_natCast, bne_iff_ne, beq_iff_eq, ne_eq, Decidable.not_not] at h6)
            refine AWp_seq ?_
            -- region 4 ref.go:130
            refine AWp_regL ?_
            refine st rfl rfl rfl (op_assignO rfl rfl) ?_
            refine AOps_nil ?_
            refine AWp_ret ?_
            (try simp only [blockQ, thenQ])
            refine ResQ_1 rfl hcl trivial (Ret_of ?_)
            refine bool_of ?_
            by_cases hd : digs n.digits n.digits.size
            · have hd2 := hr0.2 hd; simp_all [NumMay] <;> omega
            · have hd2 := mt hr0.1 hd; simp_all [NumMay] <;> omega
          · (try rw [h6]); (try simp only [decide_eq_true_eq, decide_eq_false_iff_not, Bool.not_eq_true', Bool.not_eq_false', Int.not_lt, Int.not_le, Bool.not_true, Bool.not_false, Int.toNat_natCast, bne_iff_ne, beq_iff_eq, ne_eq, Decidable.not_not] at h6)
            refine AWp_skip ?_
            refine AWp_seq ?_
            -- region 5 ref.go:132
            refine AWp_regL ?_
            refine st rfl rfl rfl (op_fieldAddrO (fo := 1) rfl Tryd.underlying23 rfl rfl Tryd.sizeOf9 (by decide) rfl trivial) ?_
            refine st rfl rfl rfl (op_load1 rfl Tryd.isAgg9 (by first | exact ldv_own rfl rfl | exact ldv_pp rfl | exact ldv_old (by assumption) rfl | exact ldv_ptr (by assumption) rfl)) ?_
            refine st rfl rfl rfl (op_index_strB rfl Tryd.underlying9 rfl rfl (by omega) (by omega)) ?_
            refine st rfl rfl rfl (op_neq rfl rfl rfl) ?_
            refine st rfl rfl rfl (op_moveO rfl rfl) ?_
            refine AOps_split 41 rfl (fun h7 => ?_) (fun h7 => ?_)
            · rw [h7]; (try simp only [decide_eq_true_eq, decide_eq_false_iff_not, Bool.not_eq_true', Bool.not_eq_false', Int.not_lt, Int.not_le, Bool.not_true, Bool.not_false, Int.toNat_natCast, bne_iff_ne, beq_iff_eq, ne_eq, Decidable.not_not] at h7)
              refine stG rfl rfl rfl rfl rfl rfl (op_fieldAddrO (fo := 1) rfl Tryd.underlying23 rfl rfl Tryd.sizeOf9 (by decide) rfl trivial) ?_
              refine stG rfl rfl rfl rfl rfl rfl (op_load1 rfl Tryd.isAgg9 (by first | exact ldv_own rfl rfl | exact ldv_pp rfl | exact ldv_old (by assumption) rfl | exact ldv_ptr (by assumption) rfl)) ?_
              refine stG rfl rfl rfl rfl rfl rfl (op_fieldAddrO (fo := 1) rfl Tryd.underlying23 rfl rfl Tryd.sizeOf9 (by decide) rfl trivial) ?_
              refine stG rfl rfl rfl rfl rfl rfl (op_load1 rfl Tryd.isAgg9 (by first | exact ldv_own rfl rfl | exact ldv_pp rfl | exact ldv_old (by assumption) rfl | exact ldv_ptr (by assumption) rfl)) ?_
              refine stG rfl rfl rfl rfl rfl rfl (op_lenStr rfl rfl Tryd.underlying9 rfl) ?_
              refine stG rfl rfl rfl rfl rfl rfl (op_sub64 rfl rfl rfl (by omega) (by omega)) ?_
              refine stG rfl rfl rfl rfl rfl rfl (op_index_strB rfl Tryd.underlying9 rfl rfl (by omega) (by omega)) ?_
              refine stG rfl rfl rfl rfl rfl rfl (op_neq rfl rfl rfl) ?_
              refine st rfl rfl rfl (op_pickTO rfl rfl rfl) ?_
              refine st rfl rfl rfl (op_assignO rfl rfl) ?_
              refine AOps_nil ?_
              refine AWp_ret ?_
              (try simp only [blockQ, thenQ])
              refine ResQ_1 rfl hcl trivial (Ret_of ?_)
              refine bool_of ?_
              by_cases hd : digs n.digits n.digits.size
              · have hd2 := hr0.2 hd; simp_all [NumMay] <;> omega
              · have hd2 := mt hr0.1 hd; simp_all [NumMay] <;> omega
            · rw [h7]; (try simp only [decide_eq_true_eq, decide_eq_false_iff_not, Bool.not_eq_true', Bool.not_eq_false', Int.not_lt, Int.not_le, Bool.not_true, Bool.not_false, Int.toNat_natCast, bne_iff_ne, beq_iff_eq, ne_eq, Decidable.not_not] at h7)
              refine stS rfl rfl rfl (.inl rfl) rfl rfl ?_
              refine stS rfl rfl rfl (.inl rfl) rfl rfl ?_
              refine stS rfl rfl rfl (.inl rfl) rfl rfl ?_
              refine stS rfl rfl rfl (.inl rfl) rfl rfl ?_
              refine stS rfl rfl rfl (.inl rfl) rfl rfl ?_
              refine stS rfl rfl rfl (.inl rfl) rfl rfl ?_
              refine stS rfl rfl rfl (.inl rfl) rfl rfl ?_
              refine stS rfl rfl rfl (.inl rfl) rfl rfl ?_
              refine st rfl rfl rfl (op_pickFO rfl rfl rfl) ?_
              refine st rfl rfl rfl (op_assignO rfl rfl) ?_
              refine AOps_nil ?_
              refine AWp_ret ?_
              (try simp only [blockQ, thenQ])
              refine ResQ_1 rfl hcl trivial (Ret_of ?_)
              refine bool_of ?_
              by_cases hd : digs n.digits n.digits.size
              · have hd2 := hr0.2 hd; simp_all [NumMay] <;> omega
              · have hd2 := mt hr0.1 hd; simp_all [NumMay] <;> omega

theorem indexFunc_c (k : Nat) (fn : Go.Func) (hfn : Tryd.prog.funcs[k]? = some fn) (hname : (fn.name == "runtime.NumGoroutine") = false) (hb : fn.body.isNone = false) (l : List JV) (p : JV → Bool) (σ : List AO) (hl : l.length ≤ 1000000000) (hf : ∀ (i : Nat) x, l[i]? = some x → ACalls Tryd.prog k [.agg (vcells x)] σ (Ret (.bool (p x)) σ)) : ACalls Tryd.prog 50 [.sl false 8 (lcells l), .func (.func k) [] []] σ (fun o σ' => σ' = σ ∧ ∃ n : Int, o = .ret (.int .i64 n) ∧ ((l.any p = true ∧ 0 ≤ n) ∨ (l.any p = false ∧ n = -1))) := by
  refine ACalls_body Tryd.func50 rfl Tryd.ntmps50 (res1 Tryd.results50) (Nat.le_of_ble_eq_true rfl) (fun hcl hal => ?_)
  refine AWp_seq ?_
  -- region 0 slices.go:107
  refine AWp_regL ?_
  refine st rfl rfl rfl (op_assignO rfl rfl) ?_
  refine AOps_nil ?_
  refine AWp_seq ?_
  refine AWp_seq ?_
  -- region 1 slices.go:108
  refine AWp_regL ?_
  refine st rfl rfl rfl (op_moveO rfl rfl) ?_
  refine st rfl rfl rfl (op_lenS rfl rfl Tryd.underlying25 rfl rfl trivial) ?_
  refine st rfl rfl rfl (op_moveO rfl rfl) ?_
  refine AOps_nil ?_
  refine AWp_block ?_
  -- loop 0 LIVE 0:param 1:param 4:assign 7:call 8:move
  refine AWp_loop (ι := Nat) (fun i => i ≤ l.length ∧ ∀ (j : Nat) x, j < i → l[j]? = some x → p x = false) (fun i => ⟨[], [(0, .sl false 8 (lcells l)), (1, .func (.func k) [] []), (7, .int .i64 (l.length : Int)), (8, .int .i64 (i : Int))]⟩) (fun i => σ) (fun i => l.length - i) (0) (⟨Nat.zero_le _, fun j x hj => absurd hj (by omega)⟩) ?_ rfl (fun i hi => ?_)
  · refine ⟨rfl, rfl, rfl, ?_, rfl, trivial⟩
    rw [← lcells_length]; rfl
  obtain ⟨hi1, hi2⟩ := hi
  refine AWp_seq ?_
  -- region 2 slices.go:108
  refine AWp_regL ?_
  refine st rfl rfl rfl (op_lss rfl rfl rfl) ?_
  refine AOps_nil ?_
  refine AWp_seq ?_
  refine AWp_cond rfl (fun h1 => ?_) (fun h1 => ?_)
  · (try rw [h1]); (try simp only [decide_eq_true_eq, decide_eq_false_iff_not, Bool.not_eq_true', Bool.not_eq_false', Int.not_lt, Int.not_le, Bool.not_true, Bool.not_false, Int.toNat_natCast, bne_iff_ne, beq_iff_eq, ne_eq, Decidable.not_not] at h1)
    have hlt : i < l.length := by omega
    obtain ⟨x, hx⟩ : ∃ x, l[i]? = some x := ⟨_, List.getElem?_eq_getElem hlt⟩
    refine AWp_skip ?_
    refine AWp_seq ?_
    refine AWp_block ?_
    refine AWp_seq ?_
    -- region 3 slices.go:108
    refine AWp_regL ?_
    refine st rfl rfl rfl (op_moveO rfl rfl) ?_
    refine st rfl rfl rfl (op_assignO rfl rfl) ?_
    refine AOps_nil ?_
    refine AWp_seq ?_
    -- region 4 slices.go:109
    refine AWp_regL ?_
    refine st rfl rfl rfl (op_moveO rfl rfl) ?_
    refine st rfl rfl rfl (op_moveO rfl rfl) ?_
    refine st rfl rfl rfl (op_moveO rfl rfl) ?_
    refine st rfl rfl rfl ((by first | exact op_indexAddr rfl Tryd.underlying25 Tryd.sizeOf28 rfl rfl (by omega) (by first | exact lcells_get (by assumption) | exact mcells_get (by assumption) | exact brows_at (by omega) | assumption) | fail)) ?_
    rw [vcells_eq x]
    refine st rfl rfl rfl (op_loadK (cs := [_, _, _, _, _, _, _, _]) rfl Tryd.isAgg28 Tryd.sizeOf28 (by first | exact ldv_own rfl rfl | exact ldv_pp rfl | exact ldv_old (by assumption) rfl | exact ldv_ptr (by assumption) rfl)) ?_
    refine st rfl rfl rfl (op_callF rfl rfl rfl hfn hname hb (vcells_eq x ▸ hf i x hx)) ?_
    refine AOps_nil ?_
    refine AWp_cond rfl (fun h2 => ?_) (fun h2 => ?_)
    · (try rw [h2]); (try simp only [decide_eq_true_eq, decide_eq_false_iff_not, Bool.not_eq_true', Bool.not_eq_false', Int.not_lt, Int.not_le, Bool.not_true, Bool.not_false, Int.toNat_natCast, bne_iff_ne, beq_iff_eq, ne_eq, Decidable.not_not] at h2)
      refine AWp_seq ?_
      -- region 5 slices.go:110
      refine AWp_regL ?_
      refine st rfl rfl rfl (op_moveO rfl rfl) ?_
      refine st rfl rfl rfl (op_assignO rfl rfl) ?_
      refine AOps_nil ?_
      refine AWp_ret ?_
      (try simp only [blockQ, thenQ])
      refine ResQ_10 rfl hcl ?_ ?_
      · trivial
      · exact ⟨rfl, _, rfl, .inl ⟨List.any_eq_true.2 ⟨x, List.mem_of_getElem? hx, h2⟩, by omega⟩⟩
    · (try rw [h2]); (try simp only [decide_eq_true_eq, decide_eq_false_iff_not, Bool.not_eq_true', Bool.not_eq_false', Int.not_lt, Int.not_le, Bool.not_true, Bool.not_false, Int.toNat_natCast, bne_iff_ne, beq_iff_eq, ne_eq, Decidable.not_not] at h2)
      refine AWp_skip ?_
      -- region 6 slices.go:108
      refine AWp_regL ?_
      refine st rfl rfl rfl (op_add64 rfl rfl rfl (by omega) (by omega)) ?_
      refine st rfl rfl rfl (op_moveO rfl rfl) ?_
      refine AOps_nil ?_
      refine ⟨i + 1, σ.length, ⟨by omega, fun j y hj hy => ?_⟩, by omega, Nat.le_refl _, ⟨rfl, rfl, rfl, rfl, rfl, trivial⟩, hcl, ?_, List.take_length⟩
      · by_cases e : j = i
        · subst e; rw [hx] at hy; cases hy; exact h2
        · exact hi2 j y (by omega) hy
      · simp [ltE, AV.lt, AV.ltL]
  · (try rw [h1]); (try simp only [decide_eq_true_eq, decide_eq_false_iff_not, Bool.not_eq_true', Bool.not_eq_false', Int.not_lt, Int.not_le, Bool.not_true, Bool.not_false, Int.toNat_natCast, bne_iff_ne, beq_iff_eq, ne_eq, Decidable.not_not] at h1)
    refine AWp_exit ?_
    refine AWp_seq ?_
    -- region 7 slices.go:113
    refine AWp_regL ?_
    refine st rfl rfl rfl (op_assignO rfl rfl) ?_
    refine AOps_nil ?_
    refine AWp_ret ?_
    (try simp only [blockQ, thenQ])
    refine ResQ_10 rfl hcl ?_ ⟨rfl, _, rfl, .inr ⟨?_, rfl⟩⟩
    trivial
    rw [List.any_eq_false]
    intro x hx
    obtain ⟨j, hj⟩ := List.getElem?_of_mem hx
    have := hi2 j x (by have := (List.getElem?_eq_some_iff.1 hj).1; omega) hj
    simp [this]

theorem containsFunc_c (k : Nat) (fn : Go.Func) (hfn : Tryd.prog.funcs[k]? = some fn) (hname : (fn.name == "runtime.NumGoroutine") = false) (hb : fn.body.isNone = false) (l : List JV) (p : JV → Bool) (σ : List AO) (hl : l.length ≤ 1000000000) (hf : ∀ (i : Nat) x, l[i]? = some x → ACalls Tryd.prog k [.agg (vcells x)] σ (Ret (.bool (p x)) σ)) : ACalls Tryd.prog 31 [.sl false 8 (lcells l), .func (.func k) [] []] σ (Ret (.bool (l.any p)) σ) := by
  refine ACalls_body Tryd.func31 rfl Tryd.ntmps31 (res1 Tryd.results31) (Nat.le_of_ble_eq_true rfl) (fun hcl hal => ?_)
  refine AWp_seq ?_
  -- region 0 slices.go:124
  refine AWp_regL ?_
  refine st rfl rfl rfl (op_assignO rfl rfl) ?_
  refine AOps_nil ?_
  refine AWp_seq ?_
  -- region 1 slices.go:125
  refine AWp_regL ?_
  refine st rfl rfl rfl (op_moveO rfl rfl) ?_
  refine st rfl rfl rfl (op_moveO rfl rfl) ?_
  refine stR rfl rfl rfl (op_call rfl rfl rfl Tryd.func50 rfl rfl (indexFunc_c k fn hfn hname hb l p σ hl hf)) (fun v1_2 s1_2 hr => ?_) (fun v1_2 s1_2 hr => ?_)
  rotate_left
  · obtain ⟨_, n, h, _⟩ := hr; cases h
  obtain ⟨rfl, n, h, hn⟩ := hr; cases h
  refine st rfl rfl rfl (op_geq rfl rfl rfl) ?_
  refine st rfl rfl rfl (op_assignO rfl rfl) ?_
  refine AOps_nil ?_
  refine AWp_ret ?_
  (try simp only [blockQ, thenQ])
  refine ResQ_10 rfl hcl trivial (Ret_of ?_)
  congr 1
  rcases hn with ⟨h1, h2⟩ | ⟨h1, h2⟩
  · rw [h1]; simp; exact h2
  · rw [h1, h2]; rfl

end Lg
