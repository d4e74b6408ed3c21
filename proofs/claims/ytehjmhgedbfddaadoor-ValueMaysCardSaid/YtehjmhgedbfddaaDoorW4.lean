import Derived.Test.YtehjmhgedbfddaaDoorW1
import Derived.Test.YtehjmhgedbfddaaDoorW3
import Derived.Test.YtehjmhgedbfddaaDoorLu1
import Derived.Test.YtehjmhgedbfddaaDoorProg
set_option linter.unusedVariables false
set_option linter.unusedSimpArgs false
set_option linter.unusedSectionVars false
set_option maxRecDepth 20000
set_option maxHeartbeats 4000000
namespace Lg
open Go Go.Proofs Go.RowKit
variable [GLay] 


theorem rmay_any (n : Nat) : ∀ (v : JV) (σ : List AO), jsize v ≤ n → jb v → ACalls Tryd.prog 10 [.agg (vcells v)] σ (Ret (.bool (pb (jmay v))) σ) := by
  induction n with
  | zero => intro v σ h; have := jsize_pos v; omega
  | succ n ih =>
  intro v σ hn hjb
  have hvs := jsize_eq v
  have hl := lsize_nn v.l
  have hm := msize_nn v.m
  obtain ⟨hb1, hb2, hb3, hb4, hb5, hb6⟩ := (jb_eq v).1 hjb
  refine ACalls_body Tryd.func10 rfl Tryd.ntmps10 (res1 Tryd.results10) (Nat.le_of_ble_eq_true rfl) (fun hcl hal => ?_)
  rw [vcells_eq v]
  refine AWp_seq ?_
  -- region 0 ref.go:396
  refine AWp_regL ?_
  refine st rfl rfl rfl (op_box0 (cs := [_, _, _, _, _, _, _, _]) rfl rfl rfl) ?_
  refine st rfl rfl rfl (op_assignO rfl rfl) ?_
  refine AOps_nil ?_
  refine AWp_seq ?_
  -- region 1 ref.go:397
  refine AWp_regL ?_
  refine st rfl rfl rfl (op_fieldAddrO (fo := 2) rfl Tryd.underlying28 rfl rfl Tryd.sizeOf23 (by decide) rfl trivial) ?_
  refine st rfl rfl rfl (op_loadK (cs := [_, _, _]) rfl Tryd.isAgg23 Tryd.sizeOf23 (by first | exact ldv_own rfl rfl | exact ldv_pp rfl | exact ldv_old (by assumption) rfl | exact ldv_ptr (by assumption) rfl)) ?_
  refine st rfl rfl rfl (op_callF rfl rfl rfl Tryd.func33 rfl rfl (mayNum_c v.n _ (by omega))) ?_
  refine st rfl rfl rfl (op_assignO rfl rfl) ?_
  refine AOps_nil ?_
  refine AWp_seq ?_
  -- region 2 ref.go:398
  refine AWp_regL ?_
  refine st rfl rfl rfl (op_fieldAddrO (fo := 5) rfl Tryd.underlying28 rfl rfl Tryd.sizeOf9 (by decide) rfl trivial) ?_
  refine st rfl rfl rfl (op_load1 rfl Tryd.isAgg9 (by first | exact ldv_own rfl rfl | exact ldv_pp rfl | exact ldv_old (by assumption) rfl | exact ldv_ptr (by assumption) rfl)) ?_
  refine st rfl rfl rfl (op_callF rfl rfl rfl Tryd.func24 rfl rfl (text_c v.s _ (by omega))) ?_
  refine st rfl rfl rfl (op_assignO rfl rfl) ?_
  refine AOps_nil ?_
  refine AWp_seq ?_
  refine AWp_seq ?_
  -- region 3 ref.go:399
  refine AWp_regL ?_
  refine st rfl rfl rfl (op_fieldAddrO (fo := 0) rfl Tryd.underlying28 rfl rfl Tryd.sizeOf3 (by decide) rfl trivial) ?_
  refine st rfl rfl rfl (op_load1 rfl Tryd.isAgg3 (by first | exact ldv_own rfl rfl | exact ldv_pp rfl | exact ldv_old (by assumption) rfl | exact ldv_ptr (by assumption) rfl)) ?_
  refine st rfl rfl rfl (op_lss rfl rfl rfl) ?_
  refine st rfl rfl rfl (op_moveO rfl rfl) ?_
  refine AOps_split 19 rfl (fun h1 => ?_) (fun h1 => ?_)
  · rw [h1]; (try simp only [decide_eq_true_eq, decide_eq_false_iff_not, Bool.not_eq_true', Bool.not_eq_false', Int.not_lt, Int.not_le, Bool.not_true, Bool.not_false, Int.toNat_natCast, bne_iff_ne, beq_iff_eq, ne_eq, Decidable.not_not] at h1)
    refine stS rfl rfl rfl (.inl rfl) rfl rfl ?_
    refine stS rfl rfl rfl (.inl rfl) rfl rfl ?_
    refine stS rfl rfl rfl (.inl rfl) rfl rfl ?_
    refine st rfl rfl rfl (op_pickTO rfl rfl rfl) ?_
    refine st rfl rfl rfl (op_moveO rfl rfl) ?_
    refine stS rfl rfl rfl (.inl rfl) rfl rfl ?_
    refine stS rfl rfl rfl (.inl rfl) rfl rfl ?_
    refine st rfl rfl rfl (op_pickTO rfl rfl rfl) ?_
    refine st rfl rfl rfl (op_moveO rfl rfl) ?_
    refine stS rfl rfl rfl (.inl rfl) rfl rfl ?_
    refine stS rfl rfl rfl (.inl rfl) rfl rfl ?_
    refine st rfl rfl rfl (op_pickTO rfl rfl rfl) ?_
    refine AOps_nil ?_
    refine AWp_condT rfl ?_
    refine AWp_seq ?_
    -- region 4 ref.go:400
    refine AWp_regL ?_
    refine st rfl rfl rfl (op_assignO rfl rfl) ?_
    refine AOps_nil ?_
    refine AWp_ret ?_
    (try simp only [blockQ, thenQ])
    refine ResQ_1 rfl hcl trivial (Ret_of (bool_f ?_))
    rw [jmay_eq]; intro hj0; obtain ⟨⟨j1, j2, j3, j4, j5⟩, _⟩ := hj0
    first | omega | exact absurd (h3.symm.trans (pb_t j4)) (by decide) | exact absurd (h4.symm.trans (pb_t j5)) (by decide)
  · rw [h1]; (try simp only [decide_eq_true_eq, decide_eq_false_iff_not, Bool.not_eq_true', Bool.not_eq_false', Int.not_lt, Int.not_le, Bool.not_true, Bool.not_false, Int.toNat_natCast, bne_iff_ne, beq_iff_eq, ne_eq, Decidable.not_not] at h1)
    refine stG rfl rfl rfl rfl rfl rfl (op_fieldAddrO (fo := 0) rfl Tryd.underlying28 rfl rfl Tryd.sizeOf3 (by decide) rfl trivial) ?_
    refine stG rfl rfl rfl rfl rfl rfl (op_load1 rfl Tryd.isAgg3 (by first | exact ldv_own rfl rfl | exact ldv_pp rfl | exact ldv_old (by assumption) rfl | exact ldv_ptr (by assumption) rfl)) ?_
    refine stG rfl rfl rfl rfl rfl rfl (op_gtr rfl rfl rfl) ?_
    refine st rfl rfl rfl (op_pickFO rfl rfl rfl) ?_
    refine st rfl rfl rfl (op_moveO rfl rfl) ?_
    refine AOps_split 24 rfl (fun h2 => ?_) (fun h2 => ?_)
    · rw [h2]; (try simp only [decide_eq_true_eq, decide_eq_false_iff_not, Bool.not_eq_true', Bool.not_eq_false', Int.not_lt, Int.not_le, Bool.not_true, Bool.not_false, Int.toNat_natCast, bne_iff_ne, beq_iff_eq, ne_eq, Decidable.not_not] at h2)
      refine stS rfl rfl rfl (.inl rfl) rfl rfl ?_
      refine stS rfl rfl rfl (.inl rfl) rfl rfl ?_
      refine st rfl rfl rfl (op_pickTO rfl rfl rfl) ?_
      refine st rfl rfl rfl (op_moveO rfl rfl) ?_
      refine stS rfl rfl rfl (.inl rfl) rfl rfl ?_
      refine stS rfl rfl rfl (.inl rfl) rfl rfl ?_
      refine st rfl rfl rfl (op_pickTO rfl rfl rfl) ?_
      refine AOps_nil ?_
      refine AWp_condT rfl ?_
      refine AWp_seq ?_
      -- region 4 ref.go:400
      refine AWp_regL ?_
      refine st rfl rfl rfl (op_assignO rfl rfl) ?_
      refine AOps_nil ?_
      refine AWp_ret ?_
      (try simp only [blockQ, thenQ])
      refine ResQ_1 rfl hcl trivial (Ret_of (bool_f ?_))
      rw [jmay_eq]; intro hj0; obtain ⟨⟨j1, j2, j3, j4, j5⟩, _⟩ := hj0
      first | omega | exact absurd (h3.symm.trans (pb_t j4)) (by decide) | exact absurd (h4.symm.trans (pb_t j5)) (by decide)
    · rw [h2]; (try simp only [decide_eq_true_eq, decide_eq_false_iff_not, Bool.not_eq_true', Bool.not_eq_false', Int.not_lt, Int.not_le, Bool.not_true, Bool.not_false, Int.toNat_natCast, bne_iff_ne, beq_iff_eq, ne_eq, Decidable.not_not] at h2)
      refine stG rfl rfl rfl rfl rfl rfl (op_moveO rfl rfl) ?_
      refine stG rfl rfl rfl rfl rfl rfl (op_not rfl rfl) ?_
      refine st rfl rfl rfl (op_pickFO rfl rfl rfl) ?_
      refine st rfl rfl rfl (op_moveO rfl rfl) ?_
      refine AOps_split 28 rfl (fun h3 => ?_) (fun h3 => ?_)
      · rw [h3]; (try simp only [decide_eq_true_eq, decide_eq_false_iff_not, Bool.not_eq_true', Bool.not_eq_false', Int.not_lt, Int.not_le, Bool.not_true, Bool.not_false, Int.toNat_natCast, bne_iff_ne, beq_iff_eq, ne_eq, Decidable.not_not] at h3)
        refine stS rfl rfl rfl (.inl rfl) rfl rfl ?_
        refine stS rfl rfl rfl (.inl rfl) rfl rfl ?_
        refine st rfl rfl rfl (op_pickTO rfl rfl rfl) ?_
        refine AOps_nil ?_
        refine AWp_condT rfl ?_
        refine AWp_seq ?_
        -- region 4 ref.go:400
        refine AWp_regL ?_
        refine st rfl rfl rfl (op_assignO rfl rfl) ?_
        refine AOps_nil ?_
        refine AWp_ret ?_
        (try simp only [blockQ, thenQ])
        refine ResQ_1 rfl hcl trivial (Ret_of (bool_f ?_))
        rw [jmay_eq]; intro hj0; obtain ⟨⟨j1, j2, j3, j4, j5⟩, _⟩ := hj0
        first | omega | exact absurd (h3.symm.trans (pb_t j4)) (by decide) | exact absurd (h4.symm.trans (pb_t j5)) (by decide)
      · rw [h3]; (try simp only [decide_eq_true_eq, decide_eq_false_iff_not, Bool.not_eq_true', Bool.not_eq_false', Int.not_lt, Int.not_le, Bool.not_true, Bool.not_false, Int.toNat_natCast, bne_iff_ne, beq_iff_eq, ne_eq, Decidable.not_not] at h3)
        refine stG rfl rfl rfl rfl rfl rfl (op_moveO rfl rfl) ?_
        refine stG rfl rfl rfl rfl rfl rfl (op_not rfl rfl) ?_
        refine st rfl rfl rfl (op_pickFO rfl rfl rfl) ?_
        refine AOps_nil ?_
        refine AWp_cond rfl (fun h4 => ?_) (fun h4 => ?_)
        · (try rw [h4]); (try simp only [decide_eq_true_eq, decide_eq_false_iff_not, Bool.not_eq_true', Bool.not_eq_false', Int.not_lt, Int.not_le, Bool.not_true, Bool.not_false, Int.toNat_natCast, bne_iff_ne, beq_iff_eq, ne_eq, Decidable.not_not] at h4)
          refine AWp_seq ?_
          -- region 4 ref.go:400
          refine AWp_regL ?_
          refine st rfl rfl rfl (op_assignO rfl rfl) ?_
          refine AOps_nil ?_
          refine AWp_ret ?_
          (try simp only [blockQ, thenQ])
          refine ResQ_1 rfl hcl trivial (Ret_of (bool_f ?_))
          rw [jmay_eq]; intro hj0; obtain ⟨⟨j1, j2, j3, j4, j5⟩, _⟩ := hj0
          first | omega | exact absurd (h3.symm.trans (pb_t j4)) (by decide) | exact absurd (h4.symm.trans (pb_t j5)) (by decide)
        · (try rw [h4]); (try simp only [decide_eq_true_eq, decide_eq_false_iff_not, Bool.not_eq_true', Bool.not_eq_false', Int.not_lt, Int.not_le, Bool.not_true, Bool.not_false, Int.toNat_natCast, bne_iff_ne, beq_iff_eq, ne_eq, Decidable.not_not] at h4)
          refine AWp_skip ?_
          refine AWp_seq ?_
          refine AWp_join (ι := Bool) (fun b => b = jbad v) (fun b => ⟨[], [(1, .ptr (σ.length + 0) 0), (81, .bool b)]⟩) (fun b => σ ++ [.box [.int .i64 v.kind, .bool v.b, .bool v.n.neg, .str v.n.digits, .int .i64 v.n.exp, .str v.s, .sl false 8 (lcells v.l), .sl false 9 (mcells v.m)]]) ?_ (fun b hj => ?_)
          · skip
            -- region 5 ref.go:402
            refine AWp_regL ?_
            refine st rfl rfl rfl (op_fieldAddrO (fo := 1) rfl Tryd.underlying28 rfl rfl Tryd.sizeOf4 (by decide) rfl trivial) ?_
            refine st rfl rfl rfl (op_load1 rfl Tryd.isAgg4 (by first | exact ldv_own rfl rfl | exact ldv_pp rfl | exact ldv_old (by assumption) rfl | exact ldv_ptr (by assumption) rfl)) ?_
            refine st rfl rfl rfl (op_moveO rfl rfl) ?_
            refine AOps_split 34 rfl (fun h5 => ?_) (fun h5 => ?_)
            · rw [h5]; (try simp only [decide_eq_true_eq, decide_eq_false_iff_not, Bool.not_eq_true', Bool.not_eq_false', Int.not_lt, Int.not_le, Bool.not_true, Bool.not_false, Int.toNat_natCast, bne_iff_ne, beq_iff_eq, ne_eq, Decidable.not_not] at h5)
              refine stG rfl rfl rfl rfl rfl rfl (op_fieldAddrO (fo := 0) rfl Tryd.underlying28 rfl rfl Tryd.sizeOf3 (by decide) rfl trivial) ?_
              refine stG rfl rfl rfl rfl rfl rfl (op_load1 rfl Tryd.isAgg3 (by first | exact ldv_own rfl rfl | exact ldv_pp rfl | exact ldv_old (by assumption) rfl | exact ldv_ptr (by assumption) rfl)) ?_
              refine stG rfl rfl rfl rfl rfl rfl (op_neq rfl rfl rfl) ?_
              refine st rfl rfl rfl (op_pickTO rfl rfl rfl) ?_
              refine st rfl rfl rfl (op_moveO rfl rfl) ?_
              refine AOps_split 39 rfl (fun h6 => ?_) (fun h6 => ?_)
              · rw [h6]; (try simp only [decide_eq_true_eq, decide_eq_false_iff_not, Bool.not_eq_true', Bool.not_eq_false', Int.not_lt, Int.not_le, Bool.not_true, Bool.not_false, Int.toNat_natCast, bne_iff_ne, beq_iff_eq, ne_eq, Decidable.not_not] at h6)
                refine stS rfl rfl rfl (.inl rfl) rfl rfl ?_
                refine stS rfl rfl rfl (.inl rfl) rfl rfl ?_
                refine stS rfl rfl rfl (.inl rfl) rfl rfl ?_
                refine stS rfl rfl rfl (.inl rfl) rfl rfl ?_
                refine stS rfl rfl rfl (.inl rfl) rfl rfl ?_
                refine stS rfl rfl rfl (.inr rfl) rfl rfl ?_
                refine stS rfl rfl rfl (.inr rfl) rfl rfl ?_
                refine stS rfl rfl rfl (.inr rfl) rfl rfl ?_
                refine stS rfl rfl rfl (.inl rfl) rfl rfl ?_
                refine st rfl rfl rfl (op_pickTO rfl rfl rfl) ?_
                refine st rfl rfl rfl (op_moveO rfl rfl) ?_
                refine stS rfl rfl rfl (.inl rfl) rfl rfl ?_
                refine stS rfl rfl rfl (.inl rfl) rfl rfl ?_
                refine stS rfl rfl rfl (.inl rfl) rfl rfl ?_
                refine stS rfl rfl rfl (.inl rfl) rfl rfl ?_
                refine stS rfl rfl rfl (.inr rfl) rfl rfl ?_
                refine stS rfl rfl rfl (.inr rfl) rfl rfl ?_
                refine stS rfl rfl rfl (.inr rfl) rfl rfl ?_
                refine stS rfl rfl rfl (.inl rfl) rfl rfl ?_
                refine st rfl rfl rfl (op_pickTO rfl rfl rfl) ?_
                refine st rfl rfl rfl (op_moveO rfl rfl) ?_
                refine stS rfl rfl rfl (.inl rfl) rfl rfl ?_
                refine stS rfl rfl rfl (.inl rfl) rfl rfl ?_
                refine stS rfl rfl rfl (.inl rfl) rfl rfl ?_
                refine stS rfl rfl rfl (.inl rfl) rfl rfl ?_
                refine stS rfl rfl rfl (.inl rfl) rfl rfl ?_
                refine stS rfl rfl rfl (.inr rfl) rfl rfl ?_
                refine stS rfl rfl rfl (.inr rfl) rfl rfl ?_
                refine stS rfl rfl rfl (.inr rfl) rfl rfl ?_
                refine stS rfl rfl rfl (.inl rfl) rfl rfl ?_
                refine st rfl rfl rfl (op_pickTO rfl rfl rfl) ?_
                refine st rfl rfl rfl (op_moveO rfl rfl) ?_
                refine stS rfl rfl rfl (.inl rfl) rfl rfl ?_
                refine stS rfl rfl rfl (.inl rfl) rfl rfl ?_
                refine stS rfl rfl rfl (.inl rfl) rfl rfl ?_
                refine stS rfl rfl rfl (.inl rfl) rfl rfl ?_
                refine stS rfl rfl rfl (.inl rfl) rfl rfl ?_
                refine stS rfl rfl rfl (.inr rfl) rfl rfl ?_
                refine stS rfl rfl rfl (.inr rfl) rfl rfl ?_
                refine stS rfl rfl rfl (.inr rfl) rfl rfl ?_
                refine stS rfl rfl rfl (.inl rfl) rfl rfl ?_
                refine st rfl rfl rfl (op_pickTO rfl rfl rfl) ?_
                refine AOps_nil ?_
                refine ⟨_, ?_, ⟨rfl, rfl, rfl, trivial⟩, rfl⟩
                simp_all [jbad, List.length_pos_iff]
              · rw [h6]; (try simp only [decide_eq_true_eq, decide_eq_false_iff_not, Bool.not_eq_true', Bool.not_eq_false', Int.not_lt, Int.not_le, Bool.not_true, Bool.not_false, Int.toNat_natCast, bne_iff_ne, beq_iff_eq, ne_eq, Decidable.not_not] at h6)
                refine stG rfl rfl rfl rfl rfl rfl (op_fieldAddrO (fo := 2) rfl Tryd.underlying28 rfl rfl Tryd.sizeOf23 (by decide) rfl trivial) ?_
                refine stG rfl rfl rfl rfl rfl rfl (op_fieldAddrO (fo := 1) rfl Tryd.underlying23 rfl rfl Tryd.sizeOf9 (by decide) rfl trivial) ?_
                refine stG rfl rfl rfl rfl rfl rfl (op_load1 rfl Tryd.isAgg9 (by first | exact ldv_own rfl rfl | exact ldv_pp rfl | exact ldv_old (by assumption) rfl | exact ldv_ptr (by assumption) rfl)) ?_
                refine stG rfl rfl rfl rfl rfl rfl (op_sneq rfl rfl rfl) ?_
                refine stG rfl rfl rfl rfl rfl rfl (op_moveO rfl rfl) ?_
                refine AOps_split 44 rfl (fun h7 => ?_) (fun h7 => ?_)
                · rw [h7]; (try simp only [decide_eq_true_eq, decide_eq_false_iff_not, Bool.not_eq_true', Bool.not_eq_false', Int.not_lt, Int.not_le, Bool.not_true, Bool.not_false, Int.toNat_natCast, bne_iff_ne, beq_iff_eq, ne_eq, Decidable.not_not] at h7)
                  refine stG rfl rfl rfl rfl rfl rfl (op_fieldAddrO (fo := 0) rfl Tryd.underlying28 rfl rfl Tryd.sizeOf3 (by decide) rfl trivial) ?_
                  refine stG rfl rfl rfl rfl rfl rfl (op_load1 rfl Tryd.isAgg3 (by first | exact ldv_own rfl rfl | exact ldv_pp rfl | exact ldv_old (by assumption) rfl | exact ldv_ptr (by assumption) rfl)) ?_
                  refine stG rfl rfl rfl rfl rfl rfl (op_neq rfl rfl rfl) ?_
                  refine stG rfl rfl rfl rfl rfl rfl (op_pickTO rfl rfl rfl) ?_
                  refine st rfl rfl rfl (op_pickFO rfl rfl rfl) ?_
                  refine st rfl rfl rfl (op_moveO rfl rfl) ?_
                  refine AOps_split 50 rfl (fun h8 => ?_) (fun h8 => ?_)
                  · rw [h8]; (try simp only [decide_eq_true_eq, decide_eq_false_iff_not, Bool.not_eq_true', Bool.not_eq_false', Int.not_lt, Int.not_le, Bool.not_true, Bool.not_false, Int.toNat_natCast, bne_iff_ne, beq_iff_eq, ne_eq, Decidable.not_not] at h8)
                    refine stS rfl rfl rfl (.inl rfl) rfl rfl ?_
                    refine stS rfl rfl rfl (.inl rfl) rfl rfl ?_
                    refine stS rfl rfl rfl (.inl rfl) rfl rfl ?_
                    refine stS rfl rfl rfl (.inl rfl) rfl rfl ?_
                    refine stS rfl rfl rfl (.inr rfl) rfl rfl ?_
                    refine stS rfl rfl rfl (.inr rfl) rfl rfl ?_
                    refine stS rfl rfl rfl (.inr rfl) rfl rfl ?_
                    refine stS rfl rfl rfl (.inl rfl) rfl rfl ?_
                    refine st rfl rfl rfl (op_pickTO rfl rfl rfl) ?_
                    refine st rfl rfl rfl (op_moveO rfl rfl) ?_
                    refine stS rfl rfl rfl (.inl rfl) rfl rfl ?_
                    refine stS rfl rfl rfl (.inl rfl) rfl rfl ?_
                    refine stS rfl rfl rfl (.inl rfl) rfl rfl ?_
                    refine stS rfl rfl rfl (.inl rfl) rfl rfl ?_
                    refine stS rfl rfl rfl (.inl rfl) rfl rfl ?_
                    refine stS rfl rfl rfl (.inr rfl) rfl rfl ?_
                    refine stS rfl rfl rfl (.inr rfl) rfl rfl ?_
                    refine stS rfl rfl rfl (.inr rfl) rfl rfl ?_
                    refine stS rfl rfl rfl (.inl rfl) rfl rfl ?_
                    refine st rfl rfl rfl (op_pickTO rfl rfl rfl) ?_
                    refine st rfl rfl rfl (op_moveO rfl rfl) ?_
                    refine stS rfl rfl rfl (.inl rfl) rfl rfl ?_
                    refine stS rfl rfl rfl (.inl rfl) rfl rfl ?_
                    refine stS rfl rfl rfl (.inl rfl) rfl rfl ?_
                    refine stS rfl rfl rfl (.inl rfl) rfl rfl ?_
                    refine stS rfl rfl rfl (.inl rfl) rfl rfl ?_
                    refine stS rfl rfl rfl (.inr rfl) rfl rfl ?_
                    refine stS rfl rfl rfl (.inr rfl) rfl rfl ?_
                    refine stS rfl rfl rfl (.inr rfl) rfl rfl ?_
                    refine stS rfl rfl rfl (.inl rfl) rfl rfl ?_
                    refine st rfl rfl rfl (op_pickTO rfl rfl rfl) ?_
                    refine AOps_nil ?_
                    refine ⟨_, ?_, ⟨rfl, rfl, rfl, trivial⟩, rfl⟩
                    simp_all [jbad, List.length_pos_iff]
                  · rw [h8]; (try simp only [decide_eq_true_eq, decide_eq_false_iff_not, Bool.not_eq_true', Bool.not_eq_false', Int.not_lt, Int.not_le, Bool.not_true, Bool.not_false, Int.toNat_natCast, bne_iff_ne, beq_iff_eq, ne_eq, Decidable.not_not] at h8)
                    refine stG rfl rfl rfl rfl rfl rfl (op_fieldAddrO (fo := 5) rfl Tryd.underlying28 rfl rfl Tryd.sizeOf9 (by decide) rfl trivial) ?_
                    refine stG rfl rfl rfl rfl rfl rfl (op_load1 rfl Tryd.isAgg9 (by first | exact ldv_own rfl rfl | exact ldv_pp rfl | exact ldv_old (by assumption) rfl | exact ldv_ptr (by assumption) rfl)) ?_
                    refine stG rfl rfl rfl rfl rfl rfl (op_sneq rfl rfl rfl) ?_
                    refine stG rfl rfl rfl rfl rfl rfl (op_moveO rfl rfl) ?_
                    refine AOps_split 54 rfl (fun h9 => ?_) (fun h9 => ?_)
                    · rw [h9]; (try simp only [decide_eq_true_eq, decide_eq_false_iff_not, Bool.not_eq_true', Bool.not_eq_false', Int.not_lt, Int.not_le, Bool.not_true, Bool.not_false, Int.toNat_natCast, bne_iff_ne, beq_iff_eq, ne_eq, Decidable.not_not] at h9)
                      refine stG rfl rfl rfl rfl rfl rfl (op_fieldAddrO (fo := 0) rfl Tryd.underlying28 rfl rfl Tryd.sizeOf3 (by decide) rfl trivial) ?_
                      refine stG rfl rfl rfl rfl rfl rfl (op_load1 rfl Tryd.isAgg3 (by first | exact ldv_own rfl rfl | exact ldv_pp rfl | exact ldv_old (by assumption) rfl | exact ldv_ptr (by assumption) rfl)) ?_
                      refine stG rfl rfl rfl rfl rfl rfl (op_neq rfl rfl rfl) ?_
                      refine stG rfl rfl rfl rfl rfl rfl (op_pickTO rfl rfl rfl) ?_
                      refine st rfl rfl rfl (op_pickFO rfl rfl rfl) ?_
                      refine st rfl rfl rfl (op_moveO rfl rfl) ?_
                      refine AOps_split 60 rfl (fun h10 => ?_) (fun h10 => ?_)
                      · rw [h10]; (try simp only [decide_eq_true_eq, decide_eq_false_iff_not, Bool.not_eq_true', Bool.not_eq_false', Int.not_lt, Int.not_le, Bool.not_true, Bool.not_false, Int.toNat_natCast, bne_iff_ne, beq_iff_eq, ne_eq, Decidable.not_not] at h10)
                        refine stS rfl rfl rfl (.inl rfl) rfl rfl ?_
                        refine stS rfl rfl rfl (.inl rfl) rfl rfl ?_
                        refine stS rfl rfl rfl (.inl rfl) rfl rfl ?_
                        refine stS rfl rfl rfl (.inl rfl) rfl rfl ?_
                        refine stS rfl rfl rfl (.inl rfl) rfl rfl ?_
                        refine stS rfl rfl rfl (.inr rfl) rfl rfl ?_
                        refine stS rfl rfl rfl (.inr rfl) rfl rfl ?_
                        refine stS rfl rfl rfl (.inr rfl) rfl rfl ?_
                        refine stS rfl rfl rfl (.inl rfl) rfl rfl ?_
                        refine st rfl rfl rfl (op_pickTO rfl rfl rfl) ?_
                        refine st rfl rfl rfl (op_moveO rfl rfl) ?_
                        refine stS rfl rfl rfl (.inl rfl) rfl rfl ?_
                        refine stS rfl rfl rfl (.inl rfl) rfl rfl ?_
                        refine stS rfl rfl rfl (.inl rfl) rfl rfl ?_
                        refine stS rfl rfl rfl (.inl rfl) rfl rfl ?_
                        refine stS rfl rfl rfl (.inl rfl) rfl rfl ?_
                        refine stS rfl rfl rfl (.inr rfl) rfl rfl ?_
                        refine stS rfl rfl rfl (.inr rfl) rfl rfl ?_
                        refine stS rfl rfl rfl (.inr rfl) rfl rfl ?_
                        refine stS rfl rfl rfl (.inl rfl) rfl rfl ?_
                        refine st rfl rfl rfl (op_pickTO rfl rfl rfl) ?_
                        refine AOps_nil ?_
                        refine ⟨_, ?_, ⟨rfl, rfl, rfl, trivial⟩, rfl⟩
                        simp_all [jbad, List.length_pos_iff]
                      · rw [h10]; (try simp only [decide_eq_true_eq, decide_eq_false_iff_not, Bool.not_eq_true', Bool.not_eq_false', Int.not_lt, Int.not_le, Bool.not_true, Bool.not_false, Int.toNat_natCast, bne_iff_ne, beq_iff_eq, ne_eq, Decidable.not_not] at h10)
                        refine stG rfl rfl rfl rfl rfl rfl (op_fieldAddrO (fo := 6) rfl Tryd.underlying28 rfl rfl Tryd.sizeOf25 (by decide) rfl trivial) ?_
                        refine stG rfl rfl rfl rfl rfl rfl (op_load1 rfl Tryd.isAgg25 (by first | exact ldv_own rfl rfl | exact ldv_pp rfl | exact ldv_old (by assumption) rfl | exact ldv_ptr (by assumption) rfl)) ?_
                        refine stG rfl rfl rfl rfl rfl rfl (op_lenS rfl rfl Tryd.underlying25 rfl rfl trivial) ?_
                        refine stG rfl rfl rfl rfl rfl rfl (op_gtr rfl rfl rfl) ?_
                        refine stG rfl rfl rfl rfl rfl rfl (op_moveO rfl rfl) ?_
                        refine AOps_split 65 rfl (fun h11 => ?_) (fun h11 => ?_)
                        · rw [h11]; (try simp only [decide_eq_true_eq, decide_eq_false_iff_not, Bool.not_eq_true', Bool.not_eq_false', Int.not_lt, Int.not_le, Bool.not_true, Bool.not_false, Int.toNat_natCast, bne_iff_ne, beq_iff_eq, ne_eq, Decidable.not_not] at h11)
                          refine stG rfl rfl rfl rfl rfl rfl (op_fieldAddrO (fo := 0) rfl Tryd.underlying28 rfl rfl Tryd.sizeOf3 (by decide) rfl trivial) ?_
                          refine stG rfl rfl rfl rfl rfl rfl (op_load1 rfl Tryd.isAgg3 (by first | exact ldv_own rfl rfl | exact ldv_pp rfl | exact ldv_old (by assumption) rfl | exact ldv_ptr (by assumption) rfl)) ?_
                          refine stG rfl rfl rfl rfl rfl rfl (op_neq rfl rfl rfl) ?_
                          refine stG rfl rfl rfl rfl rfl rfl (op_pickTO rfl rfl rfl) ?_
                          refine st rfl rfl rfl (op_pickFO rfl rfl rfl) ?_
                          refine st rfl rfl rfl (op_moveO rfl rfl) ?_
                          refine AOps_split 71 rfl (fun h12 => ?_) (fun h12 => ?_)
                          · rw [h12]; (try simp only [decide_eq_true_eq, decide_eq_false_iff_not, Bool.not_eq_true', Bool.not_eq_false', Int.not_lt, Int.not_le, Bool.not_true, Bool.not_false, Int.toNat_natCast, bne_iff_ne, beq_iff_eq, ne_eq, Decidable.not_not] at h12)
                            refine stS rfl rfl rfl (.inl rfl) rfl rfl ?_
                            refine stS rfl rfl rfl (.inl rfl) rfl rfl ?_
                            refine stS rfl rfl rfl (.inl rfl) rfl rfl ?_
                            refine stS rfl rfl rfl (.inl rfl) rfl rfl ?_
                            refine stS rfl rfl rfl (.inl rfl) rfl rfl ?_
                            refine stS rfl rfl rfl (.inr rfl) rfl rfl ?_
                            refine stS rfl rfl rfl (.inr rfl) rfl rfl ?_
                            refine stS rfl rfl rfl (.inr rfl) rfl rfl ?_
                            refine stS rfl rfl rfl (.inl rfl) rfl rfl ?_
                            refine st rfl rfl rfl (op_pickTO rfl rfl rfl) ?_
                            refine AOps_nil ?_
                            refine ⟨_, ?_, ⟨rfl, rfl, rfl, trivial⟩, rfl⟩
                            simp_all [jbad, List.length_pos_iff]
                          · rw [h12]; (try simp only [decide_eq_true_eq, decide_eq_false_iff_not, Bool.not_eq_true', Bool.not_eq_false', Int.not_lt, Int.not_le, Bool.not_true, Bool.not_false, Int.toNat_natCast, bne_iff_ne, beq_iff_eq, ne_eq, Decidable.not_not] at h12)
                            refine stG rfl rfl rfl rfl rfl rfl (op_fieldAddrO (fo := 7) rfl Tryd.underlying28 rfl rfl Tryd.sizeOf26 (by decide) rfl trivial) ?_
                            refine stG rfl rfl rfl rfl rfl rfl (op_load1 rfl Tryd.isAgg26 (by first | exact ldv_own rfl rfl | exact ldv_pp rfl | exact ldv_old (by assumption) rfl | exact ldv_ptr (by assumption) rfl)) ?_
                            refine stG rfl rfl rfl rfl rfl rfl (op_lenS rfl rfl Tryd.underlying26 rfl rfl trivial) ?_
                            refine stG rfl rfl rfl rfl rfl rfl (op_gtr rfl rfl rfl) ?_
                            refine stG rfl rfl rfl rfl rfl rfl (op_moveO rfl rfl) ?_
                            refine AOps_split 76 rfl (fun h13 => ?_) (fun h13 => ?_)
                            · rw [h13]; (try simp only [decide_eq_true_eq, decide_eq_false_iff_not, Bool.not_eq_true', Bool.not_eq_false', Int.not_lt, Int.not_le, Bool.not_true, Bool.not_false, Int.toNat_natCast, bne_iff_ne, beq_iff_eq, ne_eq, Decidable.not_not] at h13)
                              refine stG rfl rfl rfl rfl rfl rfl (op_fieldAddrO (fo := 0) rfl Tryd.underlying28 rfl rfl Tryd.sizeOf3 (by decide) rfl trivial) ?_
                              refine stG rfl rfl rfl rfl rfl rfl (op_load1 rfl Tryd.isAgg3 (by first | exact ldv_own rfl rfl | exact ldv_pp rfl | exact ldv_old (by assumption) rfl | exact ldv_ptr (by assumption) rfl)) ?_
                              refine stG rfl rfl rfl rfl rfl rfl (op_neq rfl rfl rfl) ?_
                              refine stG rfl rfl rfl rfl rfl rfl (op_pickTO rfl rfl rfl) ?_
                              refine st rfl rfl rfl (op_pickFO rfl rfl rfl) ?_
                              refine AOps_nil ?_
                              refine ⟨_, ?_, ⟨rfl, rfl, rfl, trivial⟩, rfl⟩
                              simp_all [jbad, List.length_pos_iff]
                            · rw [h13]; (try simp only [decide_eq_true_eq, decide_eq_false_iff_not, Bool.not_eq_true', Bool.not_eq_false', Int.not_lt, Int.not_le, Bool.not_true, Bool.not_false, Int.toNat_natCast, bne_iff_ne, beq_iff_eq, ne_eq, Decidable.not_not] at h13)
                              refine stS rfl rfl rfl (.inl rfl) rfl rfl ?_
                              refine stS rfl rfl rfl (.inl rfl) rfl rfl ?_
                              refine stS rfl rfl rfl (.inl rfl) rfl rfl ?_
                              refine stG rfl rfl rfl rfl rfl rfl (op_pickFO rfl rfl rfl) ?_
                              refine st rfl rfl rfl (op_pickFO rfl rfl rfl) ?_
                              refine AOps_nil ?_
                              refine ⟨_, ?_, ⟨rfl, rfl, rfl, trivial⟩, rfl⟩
                              simp_all [jbad, List.length_pos_iff]
                        · rw [h11]; (try simp only [decide_eq_true_eq, decide_eq_false_iff_not, Bool.not_eq_true', Bool.not_eq_false', Int.not_lt, Int.not_le, Bool.not_true, Bool.not_false, Int.toNat_natCast, bne_iff_ne, beq_iff_eq, ne_eq, Decidable.not_not] at h11)
                          refine stS rfl rfl rfl (.inl rfl) rfl rfl ?_
                          refine stS rfl rfl rfl (.inl rfl) rfl rfl ?_
                          refine stS rfl rfl rfl (.inl rfl) rfl rfl ?_
                          refine stG rfl rfl rfl rfl rfl rfl (op_pickFO rfl rfl rfl) ?_
                          refine st rfl rfl rfl (op_pickFO rfl rfl rfl) ?_
                          refine st rfl rfl rfl (op_moveO rfl rfl) ?_
                          refine stG rfl rfl rfl rfl rfl rfl (op_fieldAddrO (fo := 7) rfl Tryd.underlying28 rfl rfl Tryd.sizeOf26 (by decide) rfl trivial) ?_
                          refine stG rfl rfl rfl rfl rfl rfl (op_load1 rfl Tryd.isAgg26 (by first | exact ldv_own rfl rfl | exact ldv_pp rfl | exact ldv_old (by assumption) rfl | exact ldv_ptr (by assumption) rfl)) ?_
                          refine stG rfl rfl rfl rfl rfl rfl (op_lenS rfl rfl Tryd.underlying26 rfl rfl trivial) ?_
                          refine stG rfl rfl rfl rfl rfl rfl (op_gtr rfl rfl rfl) ?_
                          refine stG rfl rfl rfl rfl rfl rfl (op_moveO rfl rfl) ?_
                          refine AOps_split 76 rfl (fun h14 => ?_) (fun h14 => ?_)
                          · rw [h14]; (try simp only [decide_eq_true_eq, decide_eq_false_iff_not, Bool.not_eq_true', Bool.not_eq_false', Int.not_lt, Int.not_le, Bool.not_true, Bool.not_false, Int.toNat_natCast, bne_iff_ne, beq_iff_eq, ne_eq, Decidable.not_not] at h14)
                            refine stG rfl rfl rfl rfl rfl rfl (op_fieldAddrO (fo := 0) rfl Tryd.underlying28 rfl rfl Tryd.sizeOf3 (by decide) rfl trivial) ?_
                            refine stG rfl rfl rfl rfl rfl rfl (op_load1 rfl Tryd.isAgg3 (by first | exact ldv_own rfl rfl | exact ldv_pp rfl | exact ldv_old (by assumption) rfl | exact ldv_ptr (by assumption) rfl)) ?_
                            refine stG rfl rfl rfl rfl rfl rfl (op_neq rfl rfl rfl) ?_
                            refine stG rfl rfl rfl rfl rfl rfl (op_pickTO rfl rfl rfl) ?_
                            refine st rfl rfl rfl (op_pickFO rfl rfl rfl) ?_
                            refine AOps_nil ?_
                            refine ⟨_, ?_, ⟨rfl, rfl, rfl, trivial⟩, rfl⟩
                            simp_all [jbad, List.length_pos_iff]
                          · rw [h14]; (try simp only [decide_eq_true_eq, decide_eq_false_iff_not, Bool.not_eq_true', Bool.not_eq_false', Int.not_lt, Int.not_le, Bool.not_true, Bool.not_false, Int.toNat_natCast, bne_iff_ne, beq_iff_eq, ne_eq, Decidable.not_not] at h14)
                            refine stS rfl rfl rfl (.inl rfl) rfl rfl ?_
                            refine stS rfl rfl rfl (.inl rfl) rfl rfl ?_
                            refine stS rfl rfl rfl (.inl rfl) rfl rfl ?_
                            refine stG rfl rfl rfl rfl rfl rfl (op_pickFO rfl rfl rfl) ?_
                            refine st rfl rfl rfl (op_pickFO rfl rfl rfl) ?_
                            refine AOps_nil ?_
                            refine ⟨_, ?_, ⟨rfl, rfl, rfl, trivial⟩, rfl⟩
                            simp_all [jbad, List.length_pos_iff]
                    · rw [h9]; (try simp only [decide_eq_true_eq, decide_eq_false_iff_not, Bool.not_eq_true', Bool.not_eq_false', Int.not_lt, Int.not_le, Bool.not_true, Bool.not_false, Int.toNat_natCast, bne_iff_ne, beq_iff_eq, ne_eq, Decidable.not_not] at h9)
                      refine stS rfl rfl rfl (.inl rfl) rfl rfl ?_
                      refine stS rfl rfl rfl (.inl rfl) rfl rfl ?_
                      refine stS rfl rfl rfl (.inl rfl) rfl rfl ?_
                      refine stG rfl rfl rfl rfl rfl rfl (op_pickFO rfl rfl rfl) ?_
                      refine st rfl rfl rfl (op_pickFO rfl rfl rfl) ?_
                      refine st rfl rfl rfl (op_moveO rfl rfl) ?_
                      refine stG rfl rfl rfl rfl rfl rfl (op_fieldAddrO (fo := 6) rfl Tryd.underlying28 rfl rfl Tryd.sizeOf25 (by decide) rfl trivial) ?_
                      refine stG rfl rfl rfl rfl rfl rfl (op_load1 rfl Tryd.isAgg25 (by first | exact ldv_own rfl rfl | exact ldv_pp rfl | exact ldv_old (by assumption) rfl | exact ldv_ptr (by assumption) rfl)) ?_
                      refine stG rfl rfl rfl rfl rfl rfl (op_lenS rfl rfl Tryd.underlying25 rfl rfl trivial) ?_
                      refine stG rfl rfl rfl rfl rfl rfl (op_gtr rfl rfl rfl) ?_
                      refine stG rfl rfl rfl rfl rfl rfl (op_moveO rfl rfl) ?_
                      refine AOps_split 65 rfl (fun h15 => ?_) (fun h15 => ?_)
                      · rw [h15]; (try simp only [decide_eq_true_eq, decide_eq_false_iff_not, Bool.not_eq_true', Bool.not_eq_false', Int.not_lt, Int.not_le, Bool.not_true, Bool.not_false, Int.toNat_natCast, bne_iff_ne, beq_iff_eq, ne_eq, Decidable.not_not] at h15)
                        refine stG rfl rfl rfl rfl rfl rfl (op_fieldAddrO (fo := 0) rfl Tryd.underlying28 rfl rfl Tryd.sizeOf3 (by decide) rfl trivial) ?_
                        refine stG rfl rfl rfl rfl rfl rfl (op_load1 rfl Tryd.isAgg3 (by first | exact ldv_own rfl rfl | exact ldv_pp rfl | exact ldv_old (by assumption) rfl | exact ldv_ptr (by assumption) rfl)) ?_
                        refine stG rfl rfl rfl rfl rfl rfl (op_neq rfl rfl rfl) ?_
                        refine stG rfl rfl rfl rfl rfl rfl (op_pickTO rfl rfl rfl) ?_
                        refine st rfl rfl rfl (op_pickFO rfl rfl rfl) ?_
                        refine st rfl rfl rfl (op_moveO rfl rfl) ?_
                        refine AOps_split 71 rfl (fun h16 => ?_) (fun h16 => ?_)
                        · rw [h16]; (try simp only [decide_eq_true_eq, decide_eq_false_iff_not, Bool.not_eq_true', Bool.not_eq_false', Int.not_lt, Int.not_le, Bool.not_true, Bool.not_false, Int.toNat_natCast, bne_iff_ne, beq_iff_eq, ne_eq, Decidable.not_not] at h16)
                          refine stS rfl rfl rfl (.inl rfl) rfl rfl ?_
                          refine stS rfl rfl rfl (.inl rfl) rfl rfl ?_
                          refine stS rfl rfl rfl (.inl rfl) rfl rfl ?_
                          refine stS rfl rfl rfl (.inl rfl) rfl rfl ?_
                          refine stS rfl rfl rfl (.inl rfl) rfl rfl ?_
                          refine stS rfl rfl rfl (.inr rfl) rfl rfl ?_
                          refine stS rfl rfl rfl (.inr rfl) rfl rfl ?_
                          refine stS rfl rfl rfl (.inr rfl) rfl rfl ?_
                          refine stS rfl rfl rfl (.inl rfl) rfl rfl ?_
                          refine st rfl rfl rfl (op_pickTO rfl rfl rfl) ?_
                          refine AOps_nil ?_
                          refine ⟨_, ?_, ⟨rfl, rfl, rfl, trivial⟩, rfl⟩
                          simp_all [jbad, List.length_pos_iff]
                        · rw [h16]; (try simp only [decide_eq_true_eq, decide_eq_false_iff_not, Bool.not_eq_true', Bool.not_eq_false', Int.not_lt, Int.not_le, Bool.not_true, Bool.not_false, Int.toNat_natCast, bne_iff_ne, beq_iff_eq, ne_eq, Decidable.not_not] at h16)
                          refine stG rfl rfl rfl rfl rfl rfl (op_fieldAddrO (fo := 7) rfl Tryd.underlying28 rfl rfl Tryd.sizeOf26 (by decide) rfl trivial) ?_
                          refine stG rfl rfl rfl rfl rfl rfl (op_load1 rfl Tryd.isAgg26 (by first | exact ldv_own rfl rfl | exact ldv_pp rfl | exact ldv_old (by assumption) rfl | exact ldv_ptr (by assumption) rfl)) ?_
                          refine stG rfl rfl rfl rfl rfl rfl (op_lenS rfl rfl Tryd.underlying26 rfl rfl trivial) ?_
                          refine stG rfl rfl rfl rfl rfl rfl (op_gtr rfl rfl rfl) ?_
                          refine stG rfl rfl rfl rfl rfl rfl (op_moveO rfl rfl) ?_
                          refine AOps_split 76 rfl (fun h17 => ?_) (fun h17 => ?_)
                          · rw [h17]; (try simp only [decide_eq_true_eq, decide_eq_false_iff_not, Bool.not_eq_true', Bool.not_eq_false', Int.not_lt, Int.not_le, Bool.not_true, Bool.not_false, Int.toNat_natCast, bne_iff_ne, beq_iff_eq, ne_eq, Decidable.not_not] at h17)
                            refine stG rfl rfl rfl rfl rfl rfl (op_fieldAddrO (fo := 0) rfl Tryd.underlying28 rfl rfl Tryd.sizeOf3 (by decide) rfl trivial) ?_
                            refine stG rfl rfl rfl rfl rfl rfl (op_load1 rfl Tryd.isAgg3 (by first | exact ldv_own rfl rfl | exact ldv_pp rfl | exact ldv_old (by assumption) rfl | exact ldv_ptr (by assumption) rfl)) ?_
                            refine stG rfl rfl rfl rfl rfl rfl (op_neq rfl rfl rfl) ?_
                            refine stG rfl rfl rfl rfl rfl rfl (op_pickTO rfl rfl rfl) ?_
                            refine st rfl rfl rfl (op_pickFO rfl rfl rfl) ?_
                            refine AOps_nil ?_
                            refine ⟨_, ?_, ⟨rfl, rfl, rfl, trivial⟩, rfl⟩
                            simp_all [jbad, List.length_pos_iff]
                          · rw [h17]; (try simp only [decide_eq_true_eq, decide_eq_false_iff_not, Bool.not_eq_true', Bool.not_eq_false', Int.not_lt, Int.not_le, Bool.not_true, Bool.not_false, Int.toNat_natCast, bne_iff_ne, beq_iff_eq, ne_eq, Decidable.not_not] at h17)
                            refine stS rfl rfl rfl (.inl rfl) rfl rfl ?_
                            refine stS rfl rfl rfl (.inl rfl) rfl rfl ?_
                            refine stS rfl rfl rfl (.inl rfl) rfl rfl ?_
                            refine stG rfl rfl rfl rfl rfl rfl (op_pickFO rfl rfl rfl) ?_
                            refine st rfl rfl rfl (op_pickFO rfl rfl rfl) ?_
                            refine AOps_nil ?_
                            refine ⟨_, ?_, ⟨rfl, rfl, rfl, trivial⟩, rfl⟩
                            simp_all [jbad, List.length_pos_iff]
                      · rw [h15]; (try simp only [decide_eq_true_eq, decide_eq_false_iff_not, Bool.not_eq_true', Bool.not_eq_false', Int.not_lt, Int.not_le, Bool.not_true, Bool.not_false, Int.toNat_natCast, bne_iff_ne, beq_iff_eq, ne_eq, Decidable.not_not] at h15)
                        refine stS rfl rfl rfl (.inl rfl) rfl rfl ?_
                        refine stS rfl rfl rfl (.inl rfl) rfl rfl ?_
                        refine stS rfl rfl rfl (.inl rfl) rfl rfl ?_
                        refine stG rfl rfl rfl rfl rfl rfl (op_pickFO rfl rfl rfl) ?_
                        refine st rfl rfl rfl (op_pickFO rfl rfl rfl) ?_
                        refine st rfl rfl rfl (op_moveO rfl rfl) ?_
                        refine stG rfl rfl rfl rfl rfl rfl (op_fieldAddrO (fo := 7) rfl Tryd.underlying28 rfl rfl Tryd.sizeOf26 (by decide) rfl trivial) ?_
                        refine stG rfl rfl rfl rfl rfl rfl (op_load1 rfl Tryd.isAgg26 (by first | exact ldv_own rfl rfl | exact ldv_pp rfl | exact ldv_old (by assumption) rfl | exact ldv_ptr (by assumption) rfl)) ?_
                        refine stG rfl rfl rfl rfl rfl rfl (op_lenS rfl rfl Tryd.underlying26 rfl rfl trivial) ?_
                        refine stG rfl rfl rfl rfl rfl rfl (op_gtr rfl rfl rfl) ?_
                        refine stG rfl rfl rfl rfl rfl rfl (op_moveO rfl rfl) ?_
                        refine AOps_split 76 rfl (fun h18 => ?_) (fun h18 => ?_)
                        · rw [h18]; (try simp only [decide_eq_true_eq, decide_eq_false_iff_not, Bool.not_eq_true', Bool.not_eq_false', Int.not_lt, Int.not_le, Bool.not_true, Bool.not_false, Int.toNat_natCast, bne_iff_ne, beq_iff_eq, ne_eq, Decidable.not_not] at h18)
                          refine stG rfl rfl rfl rfl rfl rfl (op_fieldAddrO (fo := 0) rfl Tryd.underlying28 rfl rfl Tryd.sizeOf3 (by decide) rfl trivial) ?_
                          refine stG rfl rfl rfl rfl rfl rfl (op_load1 rfl Tryd.isAgg3 (by first | exact ldv_own rfl rfl | exact ldv_pp rfl | exact ldv_old (by assumption) rfl | exact ldv_ptr (by assumption) rfl)) ?_
                          refine stG rfl rfl rfl rfl rfl rfl (op_neq rfl rfl rfl) ?_
                          refine stG rfl rfl rfl rfl rfl rfl (op_pickTO rfl rfl rfl) ?_
                          refine st rfl rfl rfl (op_pickFO rfl rfl rfl) ?_
                          refine AOps_nil ?_
                          refine ⟨_, ?_, ⟨rfl, rfl, rfl, trivial⟩, rfl⟩
                          simp_all [jbad, List.length_pos_iff]
                        · rw [h18]; (try simp only [decide_eq_true_eq, decide_eq_false_iff_not, Bool.not_eq_true', Bool.not_eq_false', Int.not_lt, Int.not_le, Bool.not_true, Bool.not_false, Int.toNat_natCast, bne_iff_ne, beq_iff_eq, ne_eq, Decidable.not_not] at h18)
                          refine stS rfl rfl rfl (.inl rfl) rfl rfl ?_
                          refine stS rfl rfl rfl (.inl rfl) rfl rfl ?_
                          refine stS rfl rfl rfl (.inl rfl) rfl rfl ?_
                          refine stG rfl rfl rfl rfl rfl rfl (op_pickFO rfl rfl rfl) ?_
                          refine st rfl rfl rfl (op_pickFO rfl rfl rfl) ?_
                          refine AOps_nil ?_
                          refine ⟨_, ?_, ⟨rfl, rfl, rfl, trivial⟩, rfl⟩
                          simp_all [jbad, List.length_pos_iff]
                · rw [h7]; (try simp only [decide_eq_true_eq, decide_eq_false_iff_not, Bool.not_eq_true', Bool.not_eq_false', Int.not_lt, Int.not_le, Bool.not_true, Bool.not_false, Int.toNat_natCast, bne_iff_ne, beq_iff_eq, ne_eq, Decidable.not_not] at h7)
                  refine stS rfl rfl rfl (.inl rfl) rfl rfl ?_
                  refine stS rfl rfl rfl (.inl rfl) rfl rfl ?_
                  refine stS rfl rfl rfl (.inl rfl) rfl rfl ?_
                  refine stG rfl rfl rfl rfl rfl rfl (op_pickFO rfl rfl rfl) ?_
                  refine st rfl rfl rfl (op_pickFO rfl rfl rfl) ?_
                  refine st rfl rfl rfl (op_moveO rfl rfl) ?_
                  refine stG rfl rfl rfl rfl rfl rfl (op_fieldAddrO (fo := 5) rfl Tryd.underlying28 rfl rfl Tryd.sizeOf9 (by decide) rfl trivial) ?_
                  refine stG rfl rfl rfl rfl rfl rfl (op_load1 rfl Tryd.isAgg9 (by first | exact ldv_own rfl rfl | exact ldv_pp rfl | exact ldv_old (by assumption) rfl | exact ldv_ptr (by assumption) rfl)) ?_
                  refine stG rfl rfl rfl rfl rfl rfl (op_sneq rfl rfl rfl) ?_
                  refine stG rfl rfl rfl rfl rfl rfl (op_moveO rfl rfl) ?_
                  refine AOps_split 54 rfl (fun h19 => ?_) (fun h19 => ?_)
                  · rw [h19]; (try simp only [decide_eq_true_eq, decide_eq_false_iff_not, Bool.not_eq_true', Bool.not_eq_false', Int.not_lt, Int.not_le, Bool.not_true, Bool.not_false, Int.toNat_natCast, bne_iff_ne, beq_iff_eq, ne_eq, Decidable.not_not] at h19)
                    refine stG rfl rfl rfl rfl rfl rfl (op_fieldAddrO (fo := 0) rfl Tryd.underlying28 rfl rfl Tryd.sizeOf3 (by decide) rfl trivial) ?_
                    refine stG rfl rfl rfl rfl rfl rfl (op_load1 rfl Tryd.isAgg3 (by first | exact ldv_own rfl rfl | exact ldv_pp rfl | exact ldv_old (by assumption) rfl | exact ldv_ptr (by assumption) rfl)) ?_
                    refine stG rfl rfl rfl rfl rfl rfl (op_neq rfl rfl rfl) ?_
                    refine stG rfl rfl rfl rfl rfl rfl (op_pickTO rfl rfl rfl) ?_
                    refine st rfl rfl rfl (op_pickFO rfl rfl rfl) ?_
                    refine st rfl rfl rfl (op_moveO rfl rfl) ?_
                    refine AOps_split 60 rfl (fun h20 => ?_) (fun h20 => ?_)
                    · rw [h20]; (try simp only [decide_eq_true_eq, decide_eq_false_iff_not, Bool.not_eq_true', Bool.not_eq_false', Int.not_lt, Int.not_le, Bool.not_true, Bool.not_false, Int.toNat_natCast, bne_iff_ne, beq_iff_eq, ne_eq, Decidable.not_not] at h20)
                      refine stS rfl rfl rfl (.inl rfl) rfl rfl ?_
                      refine stS rfl rfl rfl (.inl rfl) rfl rfl ?_
                      refine stS rfl rfl rfl (.inl rfl) rfl rfl ?_
                      refine stS rfl rfl rfl (.inl rfl) rfl rfl ?_
                      refine stS rfl rfl rfl (.inl rfl) rfl rfl ?_
                      refine stS rfl rfl rfl (.inr rfl) rfl rfl ?_
                      refine stS rfl rfl rfl (.inr rfl) rfl rfl ?_
                      refine stS rfl rfl rfl (.inr rfl) rfl rfl ?_
                      refine stS rfl rfl rfl (.inl rfl) rfl rfl ?_
                      refine st rfl rfl rfl (op_pickTO rfl rfl rfl) ?_
                      refine st rfl rfl rfl (op_moveO rfl rfl) ?_
                      refine stS rfl rfl rfl (.inl rfl) rfl rfl ?_
                      refine stS rfl rfl rfl (.inl rfl) rfl rfl ?_
                      refine stS rfl rfl rfl (.inl rfl) rfl rfl ?_
                      refine stS rfl rfl rfl (.inl rfl) rfl rfl ?_
                      refine stS rfl rfl rfl (.inl rfl) rfl rfl ?_
                      refine stS rfl rfl rfl (.inr rfl) rfl rfl ?_
                      refine stS rfl rfl rfl (.inr rfl) rfl rfl ?_
                      refine stS rfl rfl rfl (.inr rfl) rfl rfl ?_
                      refine stS rfl rfl rfl (.inl rfl) rfl rfl ?_
                      refine st rfl rfl rfl (op_pickTO rfl rfl rfl) ?_
                      refine AOps_nil ?_
                      refine ⟨_, ?_, ⟨rfl, rfl, rfl, trivial⟩, rfl⟩
                      simp_all [jbad, List.length_pos_iff]
                    · rw [h20]; (try simp only [decide_eq_true_eq, decide_eq_false_iff_not, Bool.not_eq_true', Bool.not_eq_false', Int.not_lt, Int.not_le, Bool.not_true, Bool.not_false, Int.toNat_natCast, bne_iff_ne, beq_iff_eq, ne_eq, Decidable.not_not] at h20)
                      refine stG rfl rfl rfl rfl rfl rfl (op_fieldAddrO (fo := 6) rfl Tryd.underlying28 rfl rfl Tryd.sizeOf25 (by decide) rfl trivial) ?_
                      refine stG rfl rfl rfl rfl rfl rfl (op_load1 rfl Tryd.isAgg25 (by first | exact ldv_own rfl rfl | exact ldv_pp rfl | exact ldv_old (by assumption) rfl | exact ldv_ptr (by assumption) rfl)) ?_
                      refine stG rfl rfl rfl rfl rfl rfl (op_lenS rfl rfl Tryd.underlying25 rfl rfl trivial) ?_
                      refine stG rfl rfl rfl rfl rfl rfl (op_gtr rfl rfl rfl) ?_
                      refine stG rfl rfl rfl rfl rfl rfl (op_moveO rfl rfl) ?_
                      refine AOps_split 65 rfl (fun h21 => ?_) (fun h21 => ?_)
                      · rw [h21]; (try simp only [decide_eq_true_eq, decide_eq_false_iff_not, Bool.not_eq_true', Bool.not_eq_false', Int.not_lt, Int.not_le, Bool.not_true, Bool.not_false, Int.toNat_natCast, bne_iff_ne, beq_iff_eq, ne_eq, Decidable.not_not] at h21)
                        refine stG rfl rfl rfl rfl rfl rfl (op_fieldAddrO (fo := 0) rfl Tryd.underlying28 rfl rfl Tryd.sizeOf3 (by decide) rfl trivial) ?_
                        refine stG rfl rfl rfl rfl rfl rfl (op_load1 rfl Tryd.isAgg3 (by first | exact ldv_own rfl rfl | exact ldv_pp rfl | exact ldv_old (by assumption) rfl | exact ldv_ptr (by assumption) rfl)) ?_
                        refine stG rfl rfl rfl rfl rfl rfl (op_neq rfl rfl rfl) ?_
                        refine stG rfl rfl rfl rfl rfl rfl (op_pickTO rfl rfl rfl) ?_
                        refine st rfl rfl rfl (op_pickFO rfl rfl rfl) ?_
                        refine st rfl rfl rfl (op_moveO rfl rfl) ?_
                        refine AOps_split 71 rfl (fun h22 => ?_) (fun h22 => ?_)
                        · rw [h22]; (try simp only [decide_eq_true_eq, decide_eq_false_iff_not, Bool.not_eq_true', Bool.not_eq_false', Int.not_lt, Int.not_le, Bool.not_true, Bool.not_false, Int.toNat_natCast, bne_iff_ne, beq_iff_eq, ne_eq, Decidable.not_not] at h22)
                          refine stS rfl rfl rfl (.inl rfl) rfl rfl ?_
                          refine stS rfl rfl rfl (.inl rfl) rfl rfl ?_
                          refine stS rfl rfl rfl (.inl rfl) rfl rfl ?_
                          refine stS rfl rfl rfl (.inl rfl) rfl rfl ?_
                          refine stS rfl rfl rfl (.inl rfl) rfl rfl ?_
                          refine stS rfl rfl rfl (.inr rfl) rfl rfl ?_
                          refine stS rfl rfl rfl (.inr rfl) rfl rfl ?_
                          refine stS rfl rfl rfl (.inr rfl) rfl rfl ?_
                          refine stS rfl rfl rfl (.inl rfl) rfl rfl ?_
                          refine st rfl rfl rfl (op_pickTO rfl rfl rfl) ?_
                          refine AOps_nil ?_
                          refine ⟨_, ?_, ⟨rfl, rfl, rfl, trivial⟩, rfl⟩
                          simp_all [jbad, List.length_pos_iff]
                        · rw [h22]; (try simp only [decide_eq_true_eq, decide_eq_false_iff_not, Bool.not_eq_true', Bool.not_eq_false', Int.not_lt, Int.not_le, Bool.not_true, Bool.not_false, Int.toNat_natCast, bne_iff_ne, beq_iff_eq, ne_eq, Decidable.not_not] at h22)
                          refine stG rfl rfl rfl rfl rfl rfl (op_fieldAddrO (fo := 7) rfl Tryd.underlying28 rfl rfl Tryd.sizeOf26 (by decide) rfl trivial) ?_
                          refine stG rfl rfl rfl rfl rfl rfl (op_load1 rfl Tryd.isAgg26 (by first | exact ldv_own rfl rfl | exact ldv_pp rfl | exact ldv_old (by assumption) rfl | exact ldv_ptr (by assumption) rfl)) ?_
                          refine stG rfl rfl rfl rfl rfl rfl (op_lenS rfl rfl Tryd.underlying26 rfl rfl trivial) ?_
                          refine stG rfl rfl rfl rfl rfl rfl (op_gtr rfl rfl rfl) ?_
                          refine stG rfl rfl rfl rfl rfl rfl (op_moveO rfl rfl) ?_
                          refine AOps_split 76 rfl (fun h23 => ?_) (fun h23 => ?_)
                          · rw [h23]; (try simp only [decide_eq_true_eq, decide_eq_false_iff_not, Bool.not_eq_true', Bool.not_eq_false', Int.not_lt, Int.not_le, Bool.not_true, Bool.not_false, Int.toNat_natCast, bne_iff_ne, beq_iff_eq, ne_eq, Decidable.not_not] at h23)
                            refine stG rfl rfl rfl rfl rfl rfl (op_fieldAddrO (fo := 0) rfl Tryd.underlying28 rfl rfl Tryd.sizeOf3 (by decide) rfl trivial) ?_
                            refine stG rfl rfl rfl rfl rfl rfl (op_load1 rfl Tryd.isAgg3 (by first | exact ldv_own rfl rfl | exact ldv_pp rfl | exact ldv_old (by assumption) rfl | exact ldv_ptr (by assumption) rfl)) ?_
                            refine stG rfl rfl rfl rfl rfl rfl (op_neq rfl rfl rfl) ?_
                            refine stG rfl rfl rfl rfl rfl rfl (op_pickTO rfl rfl rfl) ?_
                            refine st rfl rfl rfl (op_pickFO rfl rfl rfl) ?_
                            refine AOps_nil ?_
                            refine ⟨_, ?_, ⟨rfl, rfl, rfl, trivial⟩, rfl⟩
                            simp_all [jbad, List.length_pos_iff]
                          · rw [h23]; (try simp only [decide_eq_true_eq, decide_eq_false_iff_not, Bool.not_eq_true', Bool.not_eq_false', Int.not_lt, Int.not_le, Bool.not_true, Bool.not_false, Int.toNat_natCast, bne_iff_ne, beq_iff_eq, ne_eq, Decidable.not_not] at h23)
                            refine stS rfl rfl rfl (.inl rfl) rfl rfl ?_
                            refine stS rfl rfl rfl (.inl rfl) rfl rfl ?_
                            refine stS rfl rfl rfl (.inl rfl) rfl rfl ?_
                            refine stG rfl rfl rfl rfl rfl rfl (op_pickFO rfl rfl rfl) ?_
                            refine st rfl rfl rfl (op_pickFO rfl rfl rfl) ?_
                            refine AOps_nil ?_
                            refine ⟨_, ?_, ⟨rfl, rfl, rfl, trivial⟩, rfl⟩
                            simp_all [jbad, List.length_pos_iff]
                      · rw [h21]; (try simp only [decide_eq_true_eq, decide_eq_false_iff_not, Bool.not_eq_true', Bool.not_eq_false', Int.not_lt, Int.not_le, Bool.not_true, Bool.not_false, Int.toNat_natCast, bne_iff_ne, beq_iff_eq, ne_eq, Decidable.not_not] at h21)
                        refine stS rfl rfl rfl (.inl rfl) rfl rfl ?_
                        refine stS rfl rfl rfl (.inl rfl) rfl rfl ?_
                        refine stS rfl rfl rfl (.inl rfl) rfl rfl ?_
                        refine stG rfl rfl rfl rfl rfl rfl (op_pickFO rfl rfl rfl) ?_
                        refine st rfl rfl rfl (op_pickFO rfl rfl rfl) ?_
                        refine st rfl rfl rfl (op_moveO rfl rfl) ?_
                        refine stG rfl rfl rfl rfl rfl rfl (op_fieldAddrO (fo := 7) rfl Tryd.underlying28 rfl rfl Tryd.sizeOf26 (by decide) rfl trivial) ?_
                        refine stG rfl rfl rfl rfl rfl rfl (op_load1 rfl Tryd.isAgg26 (by first | exact ldv_own rfl rfl | exact ldv_pp rfl | exact ldv_old (by assumption) rfl | exact ldv_ptr (by assumption) rfl)) ?_
                        refine stG rfl rfl rfl rfl rfl rfl (op_lenS rfl rfl Tryd.underlying26 rfl rfl trivial) ?_
                        refine stG rfl rfl rfl rfl rfl rfl (op_gtr rfl rfl rfl) ?_
                        refine stG rfl rfl rfl rfl rfl rfl (op_moveO rfl rfl) ?_
                        refine AOps_split 76 rfl (fun h24 => ?_) (fun h24 => ?_)
                        · rw [h24]; (try simp only [decide_eq_true_eq, decide_eq_false_iff_not, Bool.not_eq_true', Bool.not_eq_false', Int.not_lt, Int.not_le, Bool.not_true, Bool.not_false, Int.toNat_natCast, bne_iff_ne, beq_iff_eq, ne_eq, Decidable.not_not] at h24)
                          refine stG rfl rfl rfl rfl rfl rfl (op_fieldAddrO (fo := 0) rfl Tryd.underlying28 rfl rfl Tryd.sizeOf3 (by decide) rfl trivial) ?_
                          refine stG rfl rfl rfl rfl rfl rfl (op_load1 rfl Tryd.isAgg3 (by first | exact ldv_own rfl rfl | exact ldv_pp rfl | exact ldv_old (by assumption) rfl | exact ldv_ptr (by assumption) rfl)) ?_
                          refine stG rfl rfl rfl rfl rfl rfl (op_neq rfl rfl rfl) ?_
                          refine stG rfl rfl rfl rfl rfl rfl (op_pickTO rfl rfl rfl) ?_
                          refine st rfl rfl rfl (op_pickFO rfl rfl rfl) ?_
                          refine AOps_nil ?_
                          refine ⟨_, ?_, ⟨rfl, rfl, rfl, trivial⟩, rfl⟩
                          simp_all [jbad, List.length_pos_iff]
                        · rw [h24]; (try simp only [decide_eq_true_eq, decide_eq_false_iff_not, Bool.not_eq_true', Bool.not_eq_false', Int.not_lt, Int.not_le, Bool.not_true, Bool.not_false, Int.toNat_natCast, bne_iff_ne, beq_iff_eq, ne_eq, Decidable.not_not] at h24)
                          refine stS rfl rfl rfl (.inl rfl) rfl rfl ?_
                          refine stS rfl rfl rfl (.inl rfl) rfl rfl ?_
                          refine stS rfl rfl rfl (.inl rfl) rfl rfl ?_
                          refine stG rfl rfl rfl rfl rfl rfl (op_pickFO rfl rfl rfl) ?_
                          refine st rfl rfl rfl (op_pickFO rfl rfl rfl) ?_
                          refine AOps_nil ?_
                          refine ⟨_, ?_, ⟨rfl, rfl, rfl, trivial⟩, rfl⟩
                          simp_all [jbad, List.length_pos_iff]
                  · rw [h19]; (try simp only [decide_eq_true_eq, decide_eq_false_iff_not, Bool.not_eq_true', Bool.not_eq_false', Int.not_lt, Int.not_le, Bool.not_true, Bool.not_false, Int.toNat_natCast, bne_iff_ne, beq_iff_eq, ne_eq, Decidable.not_not] at h19)
                    refine stS rfl rfl rfl (.inl rfl) rfl rfl ?_
                    refine stS rfl rfl rfl (.inl rfl) rfl rfl ?_
                    refine stS rfl rfl rfl (.inl rfl) rfl rfl ?_
                    refine stG rfl rfl rfl rfl rfl rfl (op_pickFO rfl rfl rfl) ?_
                    refine st rfl rfl rfl (op_pickFO rfl rfl rfl) ?_
                    refine st rfl rfl rfl (op_moveO rfl rfl) ?_
                    refine stG rfl rfl rfl rfl rfl rfl (op_fieldAddrO (fo := 6) rfl Tryd.underlying28 rfl rfl Tryd.sizeOf25 (by decide) rfl trivial) ?_
                    refine stG rfl rfl rfl rfl rfl rfl (op_load1 rfl Tryd.isAgg25 (by first | exact ldv_own rfl rfl | exact ldv_pp rfl | exact ldv_old (by assumption) rfl | exact ldv_ptr (by assumption) rfl)) ?_
                    refine stG rfl rfl rfl rfl rfl rfl (op_lenS rfl rfl Tryd.underlying25 rfl rfl trivial) ?_
                    refine stG rfl rfl rfl rfl rfl rfl (op_gtr rfl rfl rfl) ?_
                    refine stG rfl rfl rfl rfl rfl rfl (op_moveO rfl rfl) ?_
                    refine AOps_split 65 rfl (fun h25 => ?_) (fun h25 => ?_)
                    · rw [h25]; (try simp only [decide_eq_true_eq, decide_eq_false_iff_not, Bool.not_eq_true', Bool.not_eq_false', Int.not_lt, Int.not_le, Bool.not_true, Bool.not_false, Int.toNat_natCast, bne_iff_ne, beq_iff_eq, ne_eq, Decidable.not_not] at h25)
                      refine stG rfl rfl rfl rfl rfl rfl (op_fieldAddrO (fo := 0) rfl Tryd.underlying28 rfl rfl Tryd.sizeOf3 (by decide) rfl trivial) ?_
                      refine stG rfl rfl rfl rfl rfl rfl (op_load1 rfl Tryd.isAgg3 (by first | exact ldv_own rfl rfl | exact ldv_pp rfl | exact ldv_old (by assumption) rfl | exact ldv_ptr (by assumption) rfl)) ?_
                      refine stG rfl rfl rfl rfl rfl rfl (op_neq rfl rfl rfl) ?_
                      refine stG rfl rfl rfl rfl rfl rfl (op_pickTO rfl rfl rfl) ?_
                      refine st rfl rfl rfl (op_pickFO rfl rfl rfl) ?_
                      refine st rfl rfl rfl (op_moveO rfl rfl) ?_
                      refine AOps_split 71 rfl (fun h26 => ?_) (fun h26 => ?_)
                      · rw [h26]; (try simp only [decide_eq_true_eq, decide_eq_false_iff_not, Bool.not_eq_true', Bool.not_eq_false', Int.not_lt, Int.not_le, Bool.not_true, Bool.not_false, Int.toNat_natCast, bne_iff_ne, beq_iff_eq, ne_eq, Decidable.not_not] at h26)
                        refine stS rfl rfl rfl (.inl rfl) rfl rfl ?_
                        refine stS rfl rfl rfl (.inl rfl) rfl rfl ?_
                        refine stS rfl rfl rfl (.inl rfl) rfl rfl ?_
                        refine stS rfl rfl rfl (.inl rfl) rfl rfl ?_
                        refine stS rfl rfl rfl (.inl rfl) rfl rfl ?_
                        refine stS rfl rfl rfl (.inr rfl) rfl rfl ?_
                        refine stS rfl rfl rfl (.inr rfl) rfl rfl ?_
                        refine stS rfl rfl rfl (.inr rfl) rfl rfl ?_
                        refine stS rfl rfl rfl (.inl rfl) rfl rfl ?_
                        refine st rfl rfl rfl (op_pickTO rfl rfl rfl) ?_
                        refine AOps_nil ?_
                        refine ⟨_, ?_, ⟨rfl, rfl, rfl, trivial⟩, rfl⟩
                        simp_all [jbad, List.length_pos_iff]
                      · rw [h26]; (try simp only [decide_eq_true_eq, decide_eq_false_iff_not, Bool.not_eq_true', Bool.not_eq_false', Int.not_lt, Int.not_le, Bool.not_true, Bool.not_false, Int.toNat_natCast, bne_iff_ne, beq_iff_eq, ne_eq, Decidable.not_not] at h26)
                        refine stG rfl rfl rfl rfl rfl rfl (op_fieldAddrO (fo := 7) rfl Tryd.underlying28 rfl rfl Tryd.sizeOf26 (by decide) rfl trivial) ?_
                        refine stG rfl rfl rfl rfl rfl rfl (op_load1 rfl Tryd.isAgg26 (by first | exact ldv_own rfl rfl | exact ldv_pp rfl | exact ldv_old (by assumption) rfl | exact ldv_ptr (by assumption) rfl)) ?_
                        refine stG rfl rfl rfl rfl rfl rfl (op_lenS rfl rfl Tryd.underlying26 rfl rfl trivial) ?_
                        refine stG rfl rfl rfl rfl rfl rfl (op_gtr rfl rfl rfl) ?_
                        refine stG rfl rfl rfl rfl rfl rfl (op_moveO rfl rfl) ?_
                        refine AOps_split 76 rfl (fun h27 => ?_) (fun h27 => ?_)
                        · rw [h27]; (try simp only [decide_eq_true_eq, decide_eq_false_iff_not, Bool.not_eq_true', Bool.not_eq_false', Int.not_lt, Int.not_le, Bool.not_true, Bool.not_false, Int.toNat_natCast, bne_iff_ne, beq_iff_eq, ne_eq, Decidable.not_not] at h27)
                          refine stG rfl rfl rfl rfl rfl rfl (op_fieldAddrO (fo := 0) rfl Tryd.underlying28 rfl rfl Tryd.sizeOf3 (by decide) rfl trivial) ?_
                          refine stG rfl rfl rfl rfl rfl rfl (op_load1 rfl Tryd.isAgg3 (by first | exact ldv_own rfl rfl | exact ldv_pp rfl | exact ldv_old (by assumption) rfl | exact ldv_ptr (by assumption) rfl)) ?_
                          refine stG rfl rfl rfl rfl rfl rfl (op_neq rfl rfl rfl) ?_
                          refine stG rfl rfl rfl rfl rfl rfl (op_pickTO rfl rfl rfl) ?_
                          refine st rfl rfl rfl (op_pickFO rfl rfl rfl) ?_
                          refine AOps_nil ?_
                          refine ⟨_, ?_, ⟨rfl, rfl, rfl, trivial⟩, rfl⟩
                          simp_all [jbad, List.length_pos_iff]
                        · rw [h27]; (try simp only [decide_eq_true_eq, decide_eq_false_iff_not, Bool.not_eq_true', Bool.not_eq_false', Int.not_lt, Int.not_le, Bool.not_true, Bool.not_false, Int.toNat_natCast, bne_iff_ne, beq_iff_eq, ne_eq, Decidable.not_not] at h27)
                          refine stS rfl rfl rfl (.inl rfl) rfl rfl ?_
                          refine stS rfl rfl rfl (.inl rfl) rfl rfl ?_
                          refine stS rfl rfl rfl (.inl rfl) rfl rfl ?_
                          refine stG rfl rfl rfl rfl rfl rfl (op_pickFO rfl rfl rfl) ?_
                          refine st rfl rfl rfl (op_pickFO rfl rfl rfl) ?_
                          refine AOps_nil ?_
                          refine ⟨_, ?_, ⟨rfl, rfl, rfl, trivial⟩, rfl⟩
                          simp_all [jbad, List.length_pos_iff]
                    · rw [h25]; (try simp only [decide_eq_true_eq, decide_eq_false_iff_not, Bool.not_eq_true', Bool.not_eq_false', Int.not_lt, Int.not_le, Bool.not_true, Bool.not_false, Int.toNat_natCast, bne_iff_ne, beq_iff_eq, ne_eq, Decidable.not_not] at h25)
                      refine stS rfl rfl rfl (.inl rfl) rfl rfl ?_
                      refine stS rfl rfl rfl (.inl rfl) rfl rfl ?_
                      refine stS rfl rfl rfl (.inl rfl) rfl rfl ?_
                      refine stG rfl rfl rfl rfl rfl rfl (op_pickFO rfl rfl rfl) ?_
                      refine st rfl rfl rfl (op_pickFO rfl rfl rfl) ?_
                      refine st rfl rfl rfl (op_moveO rfl rfl) ?_
                      refine stG rfl rfl rfl rfl rfl rfl (op_fieldAddrO (fo := 7) rfl Tryd.underlying28 rfl rfl Tryd.sizeOf26 (by decide) rfl trivial) ?_
                      refine stG rfl rfl rfl rfl rfl rfl (op_load1 rfl Tryd.isAgg26 (by first | exact ldv_own rfl rfl | exact ldv_pp rfl | exact ldv_old (by assumption) rfl | exact ldv_ptr (by assumption) rfl)) ?_
                      refine stG rfl rfl rfl rfl rfl rfl (op_lenS rfl rfl Tryd.underlying26 rfl rfl trivial) ?_
                      refine stG rfl rfl rfl rfl rfl rfl (op_gtr rfl rfl rfl) ?_
                      refine stG rfl rfl rfl rfl rfl rfl (op_moveO rfl rfl) ?_
                      refine AOps_split 76 rfl (fun h28 => ?_) (fun h28 => ?_)
                      · rw [h28]; (try simp only [decide_eq_true_eq, decide_eq_false_iff_not, Bool.not_eq_true', Bool.not_eq_false', Int.not_lt, Int.not_le, Bool.not_true, Bool.not_false, Int.toNat_natCast, bne_iff_ne, beq_iff_eq, ne_eq, Decidable.not_not] at h28)
                        refine stG rfl rfl rfl rfl rfl rfl (op_fieldAddrO (fo := 0) rfl Tryd.underlying28 rfl rfl Tryd.sizeOf3 (by decide) rfl trivial) ?_
                        refine stG rfl rfl rfl rfl rfl rfl (op_load1 rfl Tryd.isAgg3 (by first | exact ldv_own rfl rfl | exact ldv_pp rfl | exact ldv_old (by assumption) rfl | exact ldv_ptr (by assumption) rfl)) ?_
                        refine stG rfl rfl rfl rfl rfl rfl (op_neq rfl rfl rfl) ?_
                        refine stG rfl rfl rfl rfl rfl rfl (op_pickTO rfl rfl rfl) ?_
                        refine st rfl rfl rfl (op_pickFO rfl rfl rfl) ?_
                        refine AOps_nil ?_
                        refine ⟨_, ?_, ⟨rfl, rfl, rfl, trivial⟩, rfl⟩
                        simp_all [jbad, List.length_pos_iff]
                      · rw [h28]; (try simp only [decide_eq_true_eq, decide_eq_false_iff_not, Bool.not_eq_true', Bool.not_eq_false', Int.not_lt, Int.not_le, Bool.not_true, Bool.not_false, Int.toNat_natCast, bne_iff_ne, beq_iff_eq, ne_eq, Decidable.not_not] at h28)
                        refine stS rfl rfl rfl (.inl rfl) rfl rfl ?_
                        refine stS rfl rfl rfl (.inl rfl) rfl rfl ?_
                        refine stS rfl rfl rfl (.inl rfl) rfl rfl ?_
                        refine stG rfl rfl rfl rfl rfl rfl (op_pickFO rfl rfl rfl) ?_
                        refine st rfl rfl rfl (op_pickFO rfl rfl rfl) ?_
                        refine AOps_nil ?_
                        refine ⟨_, ?_, ⟨rfl, rfl, rfl, trivial⟩, rfl⟩
                        simp_all [jbad, List.length_pos_iff]
            · rw [h5]; (try simp only [decide_eq_true_eq, decide_eq_false_iff_not, Bool.not_eq_true', Bool.not_eq_false', Int.not_lt, Int.not_le, Bool.not_true, Bool.not_false, Int.toNat_natCast, bne_iff_ne, beq_iff_eq, ne_eq, Decidable.not_not] at h5)
              refine stS rfl rfl rfl (.inl rfl) rfl rfl ?_
              refine stS rfl rfl rfl (.inl rfl) rfl rfl ?_
              refine stS rfl rfl rfl (.inl rfl) rfl rfl ?_
              refine st rfl rfl rfl (op_pickFO rfl rfl rfl) ?_
              refine st rfl rfl rfl (op_moveO rfl rfl) ?_
              refine stG rfl rfl rfl rfl rfl rfl (op_fieldAddrO (fo := 2) rfl Tryd.underlying28 rfl rfl Tryd.sizeOf23 (by decide) rfl trivial) ?_
              refine stG rfl rfl rfl rfl rfl rfl (op_fieldAddrO (fo := 1) rfl Tryd.underlying23 rfl rfl Tryd.sizeOf9 (by decide) rfl trivial) ?_
              refine stG rfl rfl rfl rfl rfl rfl (op_load1 rfl Tryd.isAgg9 (by first | exact ldv_own rfl rfl | exact ldv_pp rfl | exact ldv_old (by assumption) rfl | exact ldv_ptr (by assumption) rfl)) ?_
              refine stG rfl rfl rfl rfl rfl rfl (op_sneq rfl rfl rfl) ?_
              refine stG rfl rfl rfl rfl rfl rfl (op_moveO rfl rfl) ?_
              refine AOps_split 44 rfl (fun h29 => ?_) (fun h29 => ?_)
              · rw [h29]; (try simp only [decide_eq_true_eq, decide_eq_false_iff_not, Bool.not_eq_true', Bool.not_eq_false', Int.not_lt, Int.not_le, Bool.not_true, Bool.not_false, Int.toNat_natCast, bne_iff_ne, beq_iff_eq, ne_eq, Decidable.not_not] at h29)
                refine stG rfl rfl rfl rfl rfl rfl (op_fieldAddrO (fo := 0) rfl Tryd.underlying28 rfl rfl Tryd.sizeOf3 (by decide) rfl trivial) ?_
                refine stG rfl rfl rfl rfl rfl rfl (op_load1 rfl Tryd.isAgg3 (by first | exact ldv_own rfl rfl | exact ldv_pp rfl | exact ldv_old (by assumption) rfl | exact ldv_ptr (by assumption) rfl)) ?_
                refine stG rfl rfl rfl rfl rfl rfl (op_neq rfl rfl rfl) ?_
                refine stG rfl rfl rfl rfl rfl rfl (op_pickTO rfl rfl rfl) ?_
                refine st rfl rfl rfl (op_pickFO rfl rfl rfl) ?_
                refine st rfl rfl rfl (op_moveO rfl rfl) ?_
                refine AOps_split 50 rfl (fun h30 => ?_) (fun h30 => ?_)
                · rw [h30]; (try simp only [decide_eq_true_eq, decide_eq_false_iff_not, Bool.not_eq_true', Bool.not_eq_false', Int.not_lt, Int.not_le, Bool.not_true, Bool.not_false, Int.toNat_natCast, bne_iff_ne, beq_iff_eq, ne_eq, Decidable.not_not] at h30)
                  refine stS rfl rfl rfl (.inl rfl) rfl rfl ?_
                  refine stS rfl rfl rfl (.inl rfl) rfl rfl ?_
                  refine stS rfl rfl rfl (.inl rfl) rfl rfl ?_
                  refine stS rfl rfl rfl (.inl rfl) rfl rfl ?_
                  refine stS rfl rfl rfl (.inr rfl) rfl rfl ?_
                  refine stS rfl rfl rfl (.inr rfl) rfl rfl ?_
                  refine stS rfl rfl rfl (.inr rfl) rfl rfl ?_
                  refine stS rfl rfl rfl (.inl rfl) rfl rfl ?_
                  refine st rfl rfl rfl (op_pickTO rfl rfl rfl) ?_
                  refine st rfl rfl rfl (op_moveO rfl rfl) ?_
                  refine stS rfl rfl rfl (.inl rfl) rfl rfl ?_
                  refine stS rfl rfl rfl (.inl rfl) rfl rfl ?_
                  refine stS rfl rfl rfl (.inl rfl) rfl rfl ?_
                  refine stS rfl rfl rfl (.inl rfl) rfl rfl ?_
                  refine stS rfl rfl rfl (.inl rfl) rfl rfl ?_
                  refine stS rfl rfl rfl (.inr rfl) rfl rfl ?_
                  refine stS rfl rfl rfl (.inr rfl) rfl rfl ?_
                  refine stS rfl rfl rfl (.inr rfl) rfl rfl ?_
                  refine stS rfl rfl rfl (.inl rfl) rfl rfl ?_
                  refine st rfl rfl rfl (op_pickTO rfl rfl rfl) ?_
                  refine st rfl rfl rfl (op_moveO rfl rfl) ?_
                  refine stS rfl rfl rfl (.inl rfl) rfl rfl ?_
                  refine stS rfl rfl rfl (.inl rfl) rfl rfl ?_
                  refine stS rfl rfl rfl (.inl rfl) rfl rfl ?_
                  refine stS rfl rfl rfl (.inl rfl) rfl rfl ?_
                  refine stS rfl rfl rfl (.inl rfl) rfl rfl ?_
                  refine stS rfl rfl rfl (.inr rfl) rfl rfl ?_
                  refine stS rfl rfl rfl (.inr rfl) rfl rfl ?_
                  refine stS rfl rfl rfl (.inr rfl) rfl rfl ?_
                  refine stS rfl rfl rfl (.inl rfl) rfl rfl ?_
                  refine st rfl rfl rfl (op_pickTO rfl rfl rfl) ?_
                  refine AOps_nil ?_
                  refine ⟨_, ?_, ⟨rfl, rfl, rfl, trivial⟩, rfl⟩
                  simp_all [jbad, List.length_pos_iff]
                · rw [h30]; (try simp only [decide_eq_true_eq, decide_eq_false_iff_not, Bool.not_eq_true', Bool.not_eq_false', Int.not_lt, Int.not_le, Bool.not_true, Bool.not_false, Int.toNat_natCast, bne_iff_ne, beq_iff_eq, ne_eq, Decidable.not_not] at h30)
                  refine stG rfl rfl rfl rfl rfl rfl (op_fieldAddrO (fo := 5) rfl Tryd.underlying28 rfl rfl Tryd.sizeOf9 (by decide) rfl trivial) ?_
                  refine stG rfl rfl rfl rfl rfl rfl (op_load1 rfl Tryd.isAgg9 (by first | exact ldv_own rfl rfl | exact ldv_pp rfl | exact ldv_old (by assumption) rfl | exact ldv_ptr (by assumption) rfl)) ?_
                  refine stG rfl rfl rfl rfl rfl rfl (op_sneq rfl rfl rfl) ?_
                  refine stG rfl rfl rfl rfl rfl rfl (op_moveO rfl rfl) ?_
                  refine AOps_split 54 rfl (fun h31 => ?_) (fun h31 => ?_)
                  · rw [h31]; (try simp only [decide_eq_true_eq, decide_eq_false_iff_not, Bool.not_eq_true', Bool.not_eq_false', Int.not_lt, Int.not_le, Bool.not_true, Bool.not_false, Int.toNat_natCast, bne_iff_ne, beq_iff_eq, ne_eq, Decidable.not_not] at h31)
                    refine stG rfl rfl rfl rfl rfl rfl (op_fieldAddrO (fo := 0) rfl Tryd.underlying28 rfl rfl Tryd.sizeOf3 (by decide) rfl trivial) ?_
                    refine stG rfl rfl rfl rfl rfl rfl (op_load1 rfl Tryd.isAgg3 (by first | exact ldv_own rfl rfl | exact ldv_pp rfl | exact ldv_old (by assumption) rfl | exact ldv_ptr (by assumption) rfl)) ?_
                    refine stG rfl rfl rfl rfl rfl rfl (op_neq rfl rfl rfl) ?_
                    refine stG rfl rfl rfl rfl rfl rfl (op_pickTO rfl rfl rfl) ?_
                    refine st rfl rfl rfl (op_pickFO rfl rfl rfl) ?_
                    refine st rfl rfl rfl (op_moveO rfl rfl) ?_
                    refine AOps_split 60 rfl (fun h32 => ?_) (fun h32 => ?_)
                    · rw [h32]; (try simp only [decide_eq_true_eq, decide_eq_false_iff_not, Bool.not_eq_true', Bool.not_eq_false', Int.not_lt, Int.not_le, Bool.not_true, Bool.not_false, Int.toNat_natCast, bne_iff_ne, beq_iff_eq, ne_eq, Decidable.not_not] at h32)
                      refine stS rfl rfl rfl (.inl rfl) rfl rfl ?_
                      refine stS rfl rfl rfl (.inl rfl) rfl rfl ?_
                      refine stS rfl rfl rfl (.inl rfl) rfl rfl ?_
                      refine stS rfl rfl rfl (.inl rfl) rfl rfl ?_
                      refine stS rfl rfl rfl (.inl rfl) rfl rfl ?_
                      refine stS rfl rfl rfl (.inr rfl) rfl rfl ?_
                      refine stS rfl rfl rfl (.inr rfl) rfl rfl ?_
                      refine stS rfl rfl rfl (.inr rfl) rfl rfl ?_
                      refine stS rfl rfl rfl (.inl rfl) rfl rfl ?_
                      refine st rfl rfl rfl (op_pickTO rfl rfl rfl) ?_
                      refine st rfl rfl rfl (op_moveO rfl rfl) ?_
                      refine stS rfl rfl rfl (.inl rfl) rfl rfl ?_
                      refine stS rfl rfl rfl (.inl rfl) rfl rfl ?_
                      refine stS rfl rfl rfl (.inl rfl) rfl rfl ?_
                      refine stS rfl rfl rfl (.inl rfl) rfl rfl ?_
                      refine stS rfl rfl rfl (.inl rfl) rfl rfl ?_
                      refine stS rfl rfl rfl (.inr rfl) rfl rfl ?_
                      refine stS rfl rfl rfl (.inr rfl) rfl rfl ?_
                      refine stS rfl rfl rfl (.inr rfl) rfl rfl ?_
                      refine stS rfl rfl rfl (.inl rfl) rfl rfl ?_
                      refine st rfl rfl rfl (op_pickTO rfl rfl rfl) ?_
                      refine AOps_nil ?_
                      refine ⟨_, ?_, ⟨rfl, rfl, rfl, trivial⟩, rfl⟩
                      simp_all [jbad, List.length_pos_iff]
                    · rw [h32]; (try simp only [decide_eq_true_eq, decide_eq_false_iff_not, Bool.not_eq_true', Bool.not_eq_false', Int.not_lt, Int.not_le, Bool.not_true, Bool.not_false, Int.toNat_natCast, bne_iff_ne, beq_iff_eq, ne_eq, Decidable.not_not] at h32)
                      refine stG rfl rfl rfl rfl rfl rfl (op_fieldAddrO (fo := 6) rfl Tryd.underlying28 rfl rfl Tryd.sizeOf25 (by decide) rfl trivial) ?_
                      refine stG rfl rfl rfl rfl rfl rfl (op_load1 rfl Tryd.isAgg25 (by first | exact ldv_own rfl rfl | exact ldv_pp rfl | exact ldv_old (by assumption) rfl | exact ldv_ptr (by assumption) rfl)) ?_
                      refine stG rfl rfl rfl rfl rfl rfl (op_lenS rfl rfl Tryd.underlying25 rfl rfl trivial) ?_
                      refine stG rfl rfl rfl rfl rfl rfl (op_gtr rfl rfl rfl) ?_
                      refine stG rfl rfl rfl rfl rfl rfl (op_moveO rfl rfl) ?_
                      refine AOps_split 65 rfl (fun h33 => ?_) (fun h33 => ?_)
                      · rw [h33]; (try simp only [decide_eq_true_eq, decide_eq_false_iff_not, Bool.not_eq_true', Bool.not_eq_false', Int.not_lt, Int.not_le, Bool.not_true, Bool.not_false, Int.toNat_natCast, bne_iff_ne, beq_iff_eq, ne_eq, Decidable.not_not] at h33)
                        refine stG rfl rfl rfl rfl rfl rfl (op_fieldAddrO (fo := 0) rfl Tryd.underlying28 rfl rfl Tryd.sizeOf3 (by decide) rfl trivial) ?_
                        refine stG rfl rfl rfl rfl rfl rfl (op_load1 rfl Tryd.isAgg3 (by first | exact ldv_own rfl rfl | exact ldv_pp rfl | exact ldv_old (by assumption) rfl | exact ldv_ptr (by assumption) rfl)) ?_
                        refine stG rfl rfl rfl rfl rfl rfl (op_neq rfl rfl rfl) ?_
                        refine stG rfl rfl rfl rfl rfl rfl (op_pickTO rfl rfl rfl) ?_
                        refine st rfl rfl rfl (op_pickFO rfl rfl rfl) ?_
                        refine st rfl rfl rfl (op_moveO rfl rfl) ?_
                        refine AOps_split 71 rfl (fun h34 => ?_) (fun h34 => ?_)
                        · rw [h34]; (try simp only [decide_eq_true_eq, decide_eq_false_iff_not, Bool.not_eq_true', Bool.not_eq_false', Int.not_lt, Int.not_le, Bool.not_true, Bool.not_false, Int.toNat_natCast, bne_iff_ne, beq_iff_eq, ne_eq, Decidable.not_not] at h34)
                          refine stS rfl rfl rfl (.inl rfl) rfl rfl ?_
                          refine stS rfl rfl rfl (.inl rfl) rfl rfl ?_
                          refine stS rfl rfl rfl (.inl rfl) rfl rfl ?_
                          refine stS rfl rfl rfl (.inl rfl) rfl rfl ?_
                          refine stS rfl rfl rfl (.inl rfl) rfl rfl ?_
                          refine stS rfl rfl rfl (.inr rfl) rfl rfl ?_
                          refine stS rfl rfl rfl (.inr rfl) rfl rfl ?_
                          refine stS rfl rfl rfl (.inr rfl) rfl rfl ?_
                          refine stS rfl rfl rfl (.inl rfl) rfl rfl ?_
                          refine st rfl rfl rfl (op_pickTO rfl rfl rfl) ?_
                          refine AOps_nil ?_
                          refine ⟨_, ?_, ⟨rfl, rfl, rfl, trivial⟩, rfl⟩
                          simp_all [jbad, List.length_pos_iff]
                        · rw [h34]; (try simp only [decide_eq_true_eq, decide_eq_false_iff_not, Bool.not_eq_true', Bool.not_eq_false', Int.not_lt, Int.not_le, Bool.not_true, Bool.not_false, Int.toNat_natCast, bne_iff_ne, beq_iff_eq, ne_eq, Decidable.not_not] at h34)
                          refine stG rfl rfl rfl rfl rfl rfl (op_fieldAddrO (fo := 7) rfl Tryd.underlying28 rfl rfl Tryd.sizeOf26 (by decide) rfl trivial) ?_
                          refine stG rfl rfl rfl rfl rfl rfl (op_load1 rfl Tryd.isAgg26 (by first | exact ldv_own rfl rfl | exact ldv_pp rfl | exact ldv_old (by assumption) rfl | exact ldv_ptr (by assumption) rfl)) ?_
                          refine stG rfl rfl rfl rfl rfl rfl (op_lenS rfl rfl Tryd.underlying26 rfl rfl trivial) ?_
                          refine stG rfl rfl rfl rfl rfl rfl (op_gtr rfl rfl rfl) ?_
                          refine stG rfl rfl rfl rfl rfl rfl (op_moveO rfl rfl) ?_
                          refine AOps_split 76 rfl (fun h35 => ?_) (fun h35 => ?_)
                          · rw [h35]; (try simp only [decide_eq_true_eq, decide_eq_false_iff_not, Bool.not_eq_true', Bool.not_eq_false', Int.not_lt, Int.not_le, Bool.not_true, Bool.not_false, Int.toNat_natCast, bne_iff_ne, beq_iff_eq, ne_eq, Decidable.not_not] at h35)
                            refine stG rfl rfl rfl rfl rfl rfl (op_fieldAddrO (fo := 0) rfl Tryd.underlying28 rfl rfl Tryd.sizeOf3 (by decide) rfl trivial) ?_
                            refine stG rfl rfl rfl rfl rfl rfl (op_load1 rfl Tryd.isAgg3 (by first | exact ldv_own rfl rfl | exact ldv_pp rfl | exact ldv_old (by assumption) rfl | exact ldv_ptr (by assumption) rfl)) ?_
                            refine stG rfl rfl rfl rfl rfl rfl (op_neq rfl rfl rfl) ?_
                            refine stG rfl rfl rfl rfl rfl rfl (op_pickTO rfl rfl rfl) ?_
                            refine st rfl rfl rfl (op_pickFO rfl rfl rfl) ?_
                            refine AOps_nil ?_
                            refine ⟨_, ?_, ⟨rfl, rfl, rfl, trivial⟩, rfl⟩
                            simp_all [jbad, List.length_pos_iff]
                          · rw [h35]; (try simp only [decide_eq_true_eq, decide_eq_false_iff_not, Bool.not_eq_true', Bool.not_eq_false', Int.not_lt, Int.not_le, Bool.not_true, Bool.not_false, Int.toNat_natCast, bne_iff_ne, beq_iff_eq, ne_eq, Decidable.not_not] at h35)
                            refine stS rfl rfl rfl (.inl rfl) rfl rfl ?_
                            refine stS rfl rfl rfl (.inl rfl) rfl rfl ?_
                            refine stS rfl rfl rfl (.inl rfl) rfl rfl ?_
                            refine stG rfl rfl rfl rfl rfl rfl (op_pickFO rfl rfl rfl) ?_
                            refine st rfl rfl rfl (op_pickFO rfl rfl rfl) ?_
                            refine AOps_nil ?_
                            refine ⟨_, ?_, ⟨rfl, rfl, rfl, trivial⟩, rfl⟩
                            simp_all [jbad, List.length_pos_iff]
                      · rw [h33]; (try simp only [decide_eq_true_eq, decide_eq_false_iff_not, Bool.not_eq_true', Bool.not_eq_false', Int.not_lt, Int.not_le, Bool.not_true, Bool.not_false, Int.toNat_natCast, bne_iff_ne, beq_iff_eq, ne_eq, Decidable.not_not] at h33)
                        refine stS rfl rfl rfl (.inl rfl) rfl rfl ?_
                        refine stS rfl rfl rfl (.inl rfl) rfl rfl ?_
                        refine stS rfl rfl rfl (.inl rfl) rfl rfl ?_
                        refine stG rfl rfl rfl rfl rfl rfl (op_pickFO rfl rfl rfl) ?_
                        refine st rfl rfl rfl (op_pickFO rfl rfl rfl) ?_
                        refine st rfl rfl rfl (op_moveO rfl rfl) ?_
                        refine stG rfl rfl rfl rfl rfl rfl (op_fieldAddrO (fo := 7) rfl Tryd.underlying28 rfl rfl Tryd.sizeOf26 (by decide) rfl trivial) ?_
                        refine stG rfl rfl rfl rfl rfl rfl (op_load1 rfl Tryd.isAgg26 (by first | exact ldv_own rfl rfl | exact ldv_pp rfl | exact ldv_old (by assumption) rfl | exact ldv_ptr (by assumption) rfl)) ?_
                        refine stG rfl rfl rfl rfl rfl rfl (op_lenS rfl rfl Tryd.underlying26 rfl rfl trivial) ?_
                        refine stG rfl rfl rfl rfl rfl rfl (op_gtr rfl rfl rfl) ?_
                        refine stG rfl rfl rfl rfl rfl rfl (op_moveO rfl rfl) ?_
                        refine AOps_split 76 rfl (fun h36 => ?_) (fun h36 => ?_)
                        · rw [h36]; (try simp only [decide_eq_true_eq, decide_eq_false_iff_not, Bool.not_eq_true', Bool.not_eq_false', Int.not_lt, Int.not_le, Bool.not_true, Bool.not_false, Int.toNat_natCast, bne_iff_ne, beq_iff_eq, ne_eq, Decidable.not_not] at h36)
                          refine stG rfl rfl rfl rfl rfl rfl (op_fieldAddrO (fo := 0) rfl Tryd.underlying28 rfl rfl Tryd.sizeOf3 (by decide) rfl trivial) ?_
                          refine stG rfl rfl rfl rfl rfl rfl (op_load1 rfl Tryd.isAgg3 (by first | exact ldv_own rfl rfl | exact ldv_pp rfl | exact ldv_old (by assumption) rfl | exact ldv_ptr (by assumption) rfl)) ?_
                          refine stG rfl rfl rfl rfl rfl rfl (op_neq rfl rfl rfl) ?_
                          refine stG rfl rfl rfl rfl rfl rfl (op_pickTO rfl rfl rfl) ?_
                          refine st rfl rfl rfl (op_pickFO rfl rfl rfl) ?_
                          refine AOps_nil ?_
                          refine ⟨_, ?_, ⟨rfl, rfl, rfl, trivial⟩, rfl⟩
                          simp_all [jbad, List.length_pos_iff]
                        · rw [h36]; (try simp only [decide_eq_true_eq, decide_eq_false_iff_not, Bool.not_eq_true', Bool.not_eq_false', Int.not_lt, Int.not_le, Bool.not_true, Bool.not_false, Int.toNat_natCast, bne_iff_ne, beq_iff_eq, ne_eq, Decidable.not_not] at h36)
                          refine stS rfl rfl rfl (.inl rfl) rfl rfl ?_
                          refine stS rfl rfl rfl (.inl rfl) rfl rfl ?_
                          refine stS rfl rfl rfl (.inl rfl) rfl rfl ?_
                          refine stG rfl rfl rfl rfl rfl rfl (op_pickFO rfl rfl rfl) ?_
                          refine st rfl rfl rfl (op_pickFO rfl rfl rfl) ?_
                          refine AOps_nil ?_
                          refine ⟨_, ?_, ⟨rfl, rfl, rfl, trivial⟩, rfl⟩
                          simp_all [jbad, List.length_pos_iff]
                  · rw [h31]; (try simp only [decide_eq_true_eq, decide_eq_false_iff_not, Bool.not_eq_true', Bool.not_eq_false', Int.not_lt, Int.not_le, Bool.not_true, Bool.not_false, Int.toNat_natCast, bne_iff_ne, beq_iff_eq, ne_eq, Decidable.not_not] at h31)
                    refine stS rfl rfl rfl (.inl rfl) rfl rfl ?_
                    refine stS rfl rfl rfl (.inl rfl) rfl rfl ?_
                    refine stS rfl rfl rfl (.inl rfl) rfl rfl ?_
                    refine stG rfl rfl rfl rfl rfl rfl (op_pickFO rfl rfl rfl) ?_
                    refine st rfl rfl rfl (op_pickFO rfl rfl rfl) ?_
                    refine st rfl rfl rfl (op_moveO rfl rfl) ?_
                    refine stG rfl rfl rfl rfl rfl rfl (op_fieldAddrO (fo := 6) rfl Tryd.underlying28 rfl rfl Tryd.sizeOf25 (by decide) rfl trivial) ?_
                    refine stG rfl rfl rfl rfl rfl rfl (op_load1 rfl Tryd.isAgg25 (by first | exact ldv_own rfl rfl | exact ldv_pp rfl | exact ldv_old (by assumption) rfl | exact ldv_ptr (by assumption) rfl)) ?_
                    refine stG rfl rfl rfl rfl rfl rfl (op_lenS rfl rfl Tryd.underlying25 rfl rfl trivial) ?_
                    refine stG rfl rfl rfl rfl rfl rfl (op_gtr rfl rfl rfl) ?_
                    refine stG rfl rfl rfl rfl rfl rfl (op_moveO rfl rfl) ?_
                    refine AOps_split 65 rfl (fun h37 => ?_) (fun h37 => ?_)
                    · rw [h37]; (try simp only [decide_eq_true_eq, decide_eq_false_iff_not, Bool.not_eq_true', Bool.not_eq_false', Int.not_lt, Int.not_le, Bool.not_true, Bool.not_false, Int.toNat_natCast, bne_iff_ne, beq_iff_eq, ne_eq, Decidable.not_not] at h37)
                      refine stG rfl rfl rfl rfl rfl rfl (op_fieldAddrO (fo := 0) rfl Tryd.underlying28 rfl rfl Tryd.sizeOf3 (by decide) rfl trivial) ?_
                      refine stG rfl rfl rfl rfl rfl rfl (op_load1 rfl Tryd.isAgg3 (by first | exact ldv_own rfl rfl | exact ldv_pp rfl | exact ldv_old (by assumption) rfl | exact ldv_ptr (by assumption) rfl)) ?_
                      refine stG rfl rfl rfl rfl rfl rfl (op_neq rfl rfl rfl) ?_
                      refine stG rfl rfl rfl rfl rfl rfl (op_pickTO rfl rfl rfl) ?_
                      refine st rfl rfl rfl (op_pickFO rfl rfl rfl) ?_
                      refine st rfl rfl rfl (op_moveO rfl rfl) ?_
                      refine AOps_split 71 rfl (fun h38 => ?_) (fun h38 => ?_)
                      · rw [h38]; (try simp only [decide_eq_true_eq, decide_eq_false_iff_not, Bool.not_eq_true', Bool.not_eq_false', Int.not_lt, Int.not_le, Bool.not_true, Bool.not_false, Int.toNat_natCast, bne_iff_ne, beq_iff_eq, ne_eq, Decidable.not_not] at h38)
                        refine stS rfl rfl rfl (.inl rfl) rfl rfl ?_
                        refine stS rfl rfl rfl (.inl rfl) rfl rfl ?_
                        refine stS rfl rfl rfl (.inl rfl) rfl rfl ?_
                        refine stS rfl rfl rfl (.inl rfl) rfl rfl ?_
                        refine stS rfl rfl rfl (.inl rfl) rfl rfl ?_
                        refine stS rfl rfl rfl (.inr rfl) rfl rfl ?_
                        refine stS rfl rfl rfl (.inr rfl) rfl rfl ?_
                        refine stS rfl rfl rfl (.inr rfl) rfl rfl ?_
                        refine stS rfl rfl rfl (.inl rfl) rfl rfl ?_
                        refine st rfl rfl rfl (op_pickTO rfl rfl rfl) ?_
                        refine AOps_nil ?_
                        refine ⟨_, ?_, ⟨rfl, rfl, rfl, trivial⟩, rfl⟩
                        simp_all [jbad, List.length_pos_iff]
                      · rw [h38]; (try simp only [decide_eq_true_eq, decide_eq_false_iff_not, Bool.not_eq_true', Bool.not_eq_false', Int.not_lt, Int.not_le, Bool.not_true, Bool.not_false, Int.toNat_natCast, bne_iff_ne, beq_iff_eq, ne_eq, Decidable.not_not] at h38)
                        refine stG rfl rfl rfl rfl rfl rfl (op_fieldAddrO (fo := 7) rfl Tryd.underlying28 rfl rfl Tryd.sizeOf26 (by decide) rfl trivial) ?_
                        refine stG rfl rfl rfl rfl rfl rfl (op_load1 rfl Tryd.isAgg26 (by first | exact ldv_own rfl rfl | exact ldv_pp rfl | exact ldv_old (by assumption) rfl | exact ldv_ptr (by assumption) rfl)) ?_
                        refine stG rfl rfl rfl rfl rfl rfl (op_lenS rfl rfl Tryd.underlying26 rfl rfl trivial) ?_
                        refine stG rfl rfl rfl rfl rfl rfl (op_gtr rfl rfl rfl) ?_
                        refine stG rfl rfl rfl rfl rfl rfl (op_moveO rfl rfl) ?_
                        refine AOps_split 76 rfl (fun h39 => ?_) (fun h39 => ?_)
                        · rw [h39]; (try simp only [decide_eq_true_eq, decide_eq_false_iff_not, Bool.not_eq_true', Bool.not_eq_false', Int.not_lt, Int.not_le, Bool.not_true, Bool.not_false, Int.toNat_natCast, bne_iff_ne, beq_iff_eq, ne_eq, Decidable.not_not] at h39)
                          refine stG rfl rfl rfl rfl rfl rfl (op_fieldAddrO (fo := 0) rfl Tryd.underlying28 rfl rfl Tryd.sizeOf3 (by decide) rfl trivial) ?_
                          refine stG rfl rfl rfl rfl rfl rfl (op_load1 rfl Tryd.isAgg3 (by first | exact ldv_own rfl rfl | exact ldv_pp rfl | exact ldv_old (by assumption) rfl | exact ldv_ptr (by assumption) rfl)) ?_
                          refine stG rfl rfl rfl rfl rfl rfl (op_neq rfl rfl rfl) ?_
                          refine stG rfl rfl rfl rfl rfl rfl (op_pickTO rfl rfl rfl) ?_
                          refine st rfl rfl rfl (op_pickFO rfl rfl rfl) ?_
                          refine AOps_nil ?_
                          refine ⟨_, ?_, ⟨rfl, rfl, rfl, trivial⟩, rfl⟩
                          simp_all [jbad, List.length_pos_iff]
                        · rw [h39]; (try simp only [decide_eq_true_eq, decide_eq_false_iff_not, Bool.not_eq_true', Bool.not_eq_false', Int.not_lt, Int.not_le, Bool.not_true, Bool.not_false, Int.toNat_natCast, bne_iff_ne, beq_iff_eq, ne_eq, Decidable.not_not] at h39)
                          refine stS rfl rfl rfl (.inl rfl) rfl rfl ?_
                          refine stS rfl rfl rfl (.inl rfl) rfl rfl ?_
                          refine stS rfl rfl rfl (.inl rfl) rfl rfl ?_
                          refine stG rfl rfl rfl rfl rfl rfl (op_pickFO rfl rfl rfl) ?_
                          refine st rfl rfl rfl (op_pickFO rfl rfl rfl) ?_
                          refine AOps_nil ?_
                          refine ⟨_, ?_, ⟨rfl, rfl, rfl, trivial⟩, rfl⟩
                          simp_all [jbad, List.length_pos_iff]
                    · rw [h37]; (try simp only [decide_eq_true_eq, decide_eq_false_iff_not, Bool.not_eq_true', Bool.not_eq_false', Int.not_lt, Int.not_le, Bool.not_true, Bool.not_false, Int.toNat_natCast, bne_iff_ne, beq_iff_eq, ne_eq, Decidable.not_not] at h37)
                      refine stS rfl rfl rfl (.inl rfl) rfl rfl ?_
                      refine stS rfl rfl rfl (.inl rfl) rfl rfl ?_
                      refine stS rfl rfl rfl (.inl rfl) rfl rfl ?_
                      refine stG rfl rfl rfl rfl rfl rfl (op_pickFO rfl rfl rfl) ?_
                      refine st rfl rfl rfl (op_pickFO rfl rfl rfl) ?_
                      refine st rfl rfl rfl (op_moveO rfl rfl) ?_
                      refine stG rfl rfl rfl rfl rfl rfl (op_fieldAddrO (fo := 7) rfl Tryd.underlying28 rfl rfl Tryd.sizeOf26 (by decide) rfl trivial) ?_
                      refine stG rfl rfl rfl rfl rfl rfl (op_load1 rfl Tryd.isAgg26 (by first | exact ldv_own rfl rfl | exact ldv_pp rfl | exact ldv_old (by assumption) rfl | exact ldv_ptr (by assumption) rfl)) ?_
                      refine stG rfl rfl rfl rfl rfl rfl (op_lenS rfl rfl Tryd.underlying26 rfl rfl trivial) ?_
                      refine stG rfl rfl rfl rfl rfl rfl (op_gtr rfl rfl rfl) ?_
                      refine stG rfl rfl rfl rfl rfl rfl (op_moveO rfl rfl) ?_
                      refine AOps_split 76 rfl (fun h40 => ?_) (fun h40 => ?_)
                      · rw [h40]; (try simp only [decide_eq_true_eq, decide_eq_false_iff_not, Bool.not_eq_true', Bool.not_eq_false', Int.not_lt, Int.not_le, Bool.not_true, Bool.not_false, Int.toNat_natCast, bne_iff_ne, beq_iff_eq, ne_eq, Decidable.not_not] at h40)
                        refine stG rfl rfl rfl rfl rfl rfl (op_fieldAddrO (fo := 0) rfl Tryd.underlying28 rfl rfl Tryd.sizeOf3 (by decide) rfl trivial) ?_
                        refine stG rfl rfl rfl rfl rfl rfl (op_load1 rfl Tryd.isAgg3 (by first | exact ldv_own rfl rfl | exact ldv_pp rfl | exact ldv_old (by assumption) rfl | exact ldv_ptr (by assumption) rfl)) ?_
                        refine stG rfl rfl rfl rfl rfl rfl (op_neq rfl rfl rfl) ?_
                        refine stG rfl rfl rfl rfl rfl rfl (op_pickTO rfl rfl rfl) ?_
                        refine st rfl rfl rfl (op_pickFO rfl rfl rfl) ?_
                        refine AOps_nil ?_
                        refine ⟨_, ?_, ⟨rfl, rfl, rfl, trivial⟩, rfl⟩
                        simp_all [jbad, List.length_pos_iff]
                      · rw [h40]; (try simp only [decide_eq_true_eq, decide_eq_false_iff_not, Bool.not_eq_true', Bool.not_eq_false', Int.not_lt, Int.not_le, Bool.not_true, Bool.not_false, Int.toNat_natCast, bne_iff_ne, beq_iff_eq, ne_eq, Decidable.not_not] at h40)
                        refine stS rfl rfl rfl (.inl rfl) rfl rfl ?_
                        refine stS rfl rfl rfl (.inl rfl) rfl rfl ?_
                        refine stS rfl rfl rfl (.inl rfl) rfl rfl ?_
                        refine stG rfl rfl rfl rfl rfl rfl (op_pickFO rfl rfl rfl) ?_
                        refine st rfl rfl rfl (op_pickFO rfl rfl rfl) ?_
                        refine AOps_nil ?_
                        refine ⟨_, ?_, ⟨rfl, rfl, rfl, trivial⟩, rfl⟩
                        simp_all [jbad, List.length_pos_iff]
              · rw [h29]; (try simp only [decide_eq_true_eq, decide_eq_false_iff_not, Bool.not_eq_true', Bool.not_eq_false', Int.not_lt, Int.not_le, Bool.not_true, Bool.not_false, Int.toNat_natCast, bne_iff_ne, beq_iff_eq, ne_eq, Decidable.not_not] at h29)
                refine stS rfl rfl rfl (.inl rfl) rfl rfl ?_
                refine stS rfl rfl rfl (.inl rfl) rfl rfl ?_
                refine stS rfl rfl rfl (.inl rfl) rfl rfl ?_
                refine stG rfl rfl rfl rfl rfl rfl (op_pickFO rfl rfl rfl) ?_
                refine st rfl rfl rfl (op_pickFO rfl rfl rfl) ?_
                refine st rfl rfl rfl (op_moveO rfl rfl) ?_
                refine stG rfl rfl rfl rfl rfl rfl (op_fieldAddrO (fo := 5) rfl Tryd.underlying28 rfl rfl Tryd.sizeOf9 (by decide) rfl trivial) ?_
                refine stG rfl rfl rfl rfl rfl rfl (op_load1 rfl Tryd.isAgg9 (by first | exact ldv_own rfl rfl | exact ldv_pp rfl | exact ldv_old (by assumption) rfl | exact ldv_ptr (by assumption) rfl)) ?_
                refine stG rfl rfl rfl rfl rfl rfl (op_sneq rfl rfl rfl) ?_
                refine stG rfl rfl rfl rfl rfl rfl (op_moveO rfl rfl) ?_
                refine AOps_split 54 rfl (fun h41 => ?_) (fun h41 => ?_)
                · rw [h41]; (try simp only [decide_eq_true_eq, decide_eq_false_iff_not, Bool.not_eq_true', Bool.not_eq_false', Int.not_lt, Int.not_le, Bool.not_true, Bool.not_false, Int.toNat_natCast, bne_iff_ne, beq_iff_eq, ne_eq, Decidable.not_not] at h41)
                  refine stG rfl rfl rfl rfl rfl rfl (op_fieldAddrO (fo := 0) rfl Tryd.underlying28 rfl rfl Tryd.sizeOf3 (by decide) rfl trivial) ?_
                  refine stG rfl rfl rfl rfl rfl rfl (op_load1 rfl Tryd.isAgg3 (by first | exact ldv_own rfl rfl | exact ldv_pp rfl | exact ldv_old (by assumption) rfl | exact ldv_ptr (by assumption) rfl)) ?_
                  refine stG rfl rfl rfl rfl rfl rfl (op_neq rfl rfl rfl) ?_
                  refine stG rfl rfl rfl rfl rfl rfl (op_pickTO rfl rfl rfl) ?_
                  refine st rfl rfl rfl (op_pickFO rfl rfl rfl) ?_
                  refine st rfl rfl rfl (op_moveO rfl rfl) ?_
                  refine AOps_split 60 rfl (fun h42 => ?_) (fun h42 => ?_)
                  · rw [h42]; (try simp only [decide_eq_true_eq, decide_eq_false_iff_not, Bool.not_eq_true', Bool.not_eq_false', Int.not_lt, Int.not_le, Bool.not_true, Bool.not_false, Int.toNat_natCast, bne_iff_ne, beq_iff_eq, ne_eq, Decidable.not_not] at h42)
                    refine stS rfl rfl rfl (.inl rfl) rfl rfl ?_
                    refine stS rfl rfl rfl (.inl rfl) rfl rfl ?_
                    refine stS rfl rfl rfl (.inl rfl) rfl rfl ?_
                    refine stS rfl rfl rfl (.inl rfl) rfl rfl ?_
                    refine stS rfl rfl rfl (.inl rfl) rfl rfl ?_
                    refine stS rfl rfl rfl (.inr rfl) rfl rfl ?_
                    refine stS rfl rfl rfl (.inr rfl) rfl rfl ?_
                    refine stS rfl rfl rfl (.inr rfl) rfl rfl ?_
                    refine stS rfl rfl rfl (.inl rfl) rfl rfl ?_
                    refine st rfl rfl rfl (op_pickTO rfl rfl rfl) ?_
                    refine st rfl rfl rfl (op_moveO rfl rfl) ?_
                    refine stS rfl rfl rfl (.inl rfl) rfl rfl ?_
                    refine stS rfl rfl rfl (.inl rfl) rfl rfl ?_
                    refine stS rfl rfl rfl (.inl rfl) rfl rfl ?_
                    refine stS rfl rfl rfl (.inl rfl) rfl rfl ?_
                    refine stS rfl rfl rfl (.inl rfl) rfl rfl ?_
                    refine stS rfl rfl rfl (.inr rfl) rfl rfl ?_
                    refine stS rfl rfl rfl (.inr rfl) rfl rfl ?_
                    refine stS rfl rfl rfl (.inr rfl) rfl rfl ?_
                    refine stS rfl rfl rfl (.inl rfl) rfl rfl ?_
                    refine st rfl rfl rfl (op_pickTO rfl rfl rfl) ?_
                    refine AOps_nil ?_
                    refine ⟨_, ?_, ⟨rfl, rfl, rfl, trivial⟩, rfl⟩
                    simp_all [jbad, List.length_pos_iff]
                  · rw [h42]; (try simp only [decide_eq_true_eq, decide_eq_false_iff_not, Bool.not_eq_true', Bool.not_eq_false', Int.not_lt, Int.not_le, Bool.not_true, Bool.not_false, Int.toNat_natCast, bne_iff_ne, beq_iff_eq, ne_eq, Decidable.not_not] at h42)
                    refine stG rfl rfl rfl rfl rfl rfl (op_fieldAddrO (fo := 6) rfl Tryd.underlying28 rfl rfl Tryd.sizeOf25 (by decide) rfl trivial) ?_
                    refine stG rfl rfl rfl rfl rfl rfl (op_load1 rfl Tryd.isAgg25 (by first | exact ldv_own rfl rfl | exact ldv_pp rfl | exact ldv_old (by assumption) rfl | exact ldv_ptr (by assumption) rfl)) ?_
                    refine stG rfl rfl rfl rfl rfl rfl (op_lenS rfl rfl Tryd.underlying25 rfl rfl trivial) ?_
                    refine stG rfl rfl rfl rfl rfl rfl (op_gtr rfl rfl rfl) ?_
                    refine stG rfl rfl rfl rfl rfl rfl (op_moveO rfl rfl) ?_
                    refine AOps_split 65 rfl (fun h43 => ?_) (fun h43 => ?_)
                    · rw [h43]; (try simp only [decide_eq_true_eq, decide_eq_false_iff_not, Bool.not_eq_true', Bool.not_eq_false', Int.not_lt, Int.not_le, Bool.not_true, Bool.not_false, Int.toNat_natCast, bne_iff_ne, beq_iff_eq, ne_eq, Decidable.not_not] at h43)
                      refine stG rfl rfl rfl rfl rfl rfl (op_fieldAddrO (fo := 0) rfl Tryd.underlying28 rfl rfl Tryd.sizeOf3 (by decide) rfl trivial) ?_
                      refine stG rfl rfl rfl rfl rfl rfl (op_load1 rfl Tryd.isAgg3 (by first | exact ldv_own rfl rfl | exact ldv_pp rfl | exact ldv_old (by assumption) rfl | exact ldv_ptr (by assumption) rfl)) ?_
                      refine stG rfl rfl rfl rfl rfl rfl (op_neq rfl rfl rfl) ?_
                      refine stG rfl rfl rfl rfl rfl rfl (op_pickTO rfl rfl rfl) ?_
                      refine st rfl rfl rfl (op_pickFO rfl rfl rfl) ?_
                      refine st rfl rfl rfl (op_moveO rfl rfl) ?_
                      refine AOps_split 71 rfl (fun h44 => ?_) (fun h44 => ?_)
                      · rw [h44]; (try simp only [decide_eq_true_eq, decide_eq_false_iff_not, Bool.not_eq_true', Bool.not_eq_false', Int.not_lt, Int.not_le, Bool.not_true, Bool.not_false, Int.toNat_natCast, bne_iff_ne, beq_iff_eq, ne_eq, Decidable.not_not] at h44)
                        refine stS rfl rfl rfl (.inl rfl) rfl rfl ?_
                        refine stS rfl rfl rfl (.inl rfl) rfl rfl ?_
                        refine stS rfl rfl rfl (.inl rfl) rfl rfl ?_
                        refine stS rfl rfl rfl (.inl rfl) rfl rfl ?_
                        refine stS rfl rfl rfl (.inl rfl) rfl rfl ?_
                        refine stS rfl rfl rfl (.inr rfl) rfl rfl ?_
                        refine stS rfl rfl rfl (.inr rfl) rfl rfl ?_
                        refine stS rfl rfl rfl (.inr rfl) rfl rfl ?_
                        refine stS rfl rfl rfl (.inl rfl) rfl rfl ?_
                        refine st rfl rfl rfl (op_pickTO rfl rfl rfl) ?_
                        refine AOps_nil ?_
                        refine ⟨_, ?_, ⟨rfl, rfl, rfl, trivial⟩, rfl⟩
                        simp_all [jbad, List.length_pos_iff]
                      · rw [h44]; (try simp only [decide_eq_true_eq, decide_eq_false_iff_not, Bool.not_eq_true', Bool.not_eq_false', Int.not_lt, Int.not_le, Bool.not_true, Bool.not_false, Int.toNat_natCast, bne_iff_ne, beq_iff_eq, ne_eq, Decidable.not_not] at h44)
                        refine stG rfl rfl rfl rfl rfl rfl (op_fieldAddrO (fo := 7) rfl Tryd.underlying28 rfl rfl Tryd.sizeOf26 (by decide) rfl trivial) ?_
                        refine stG rfl rfl rfl rfl rfl rfl (op_load1 rfl Tryd.isAgg26 (by first | exact ldv_own rfl rfl | exact ldv_pp rfl | exact ldv_old (by assumption) rfl | exact ldv_ptr (by assumption) rfl)) ?_
                        refine stG rfl rfl rfl rfl rfl rfl (op_lenS rfl rfl Tryd.underlying26 rfl rfl trivial) ?_
                        refine stG rfl rfl rfl rfl rfl rfl (op_gtr rfl rfl rfl) ?_
                        refine stG rfl rfl rfl rfl rfl rfl (op_moveO rfl rfl) ?_
                        refine AOps_split 76 rfl (fun h45 => ?_) (fun h45 => ?_)
                        · rw [h45]; (try simp only [decide_eq_true_eq, decide_eq_false_iff_not, Bool.not_eq_true', Bool.not_eq_false', Int.not_lt, Int.not_le, Bool.not_true, Bool.not_false, Int.toNat_natCast, bne_iff_ne, beq_iff_eq, ne_eq, Decidable.not_not] at h45)
                          refine stG rfl rfl rfl rfl rfl rfl (op_fieldAddrO (fo := 0) rfl Tryd.underlying28 rfl rfl Tryd.sizeOf3 (by decide) rfl trivial) ?_
                          refine stG rfl rfl rfl rfl rfl rfl (op_load1 rfl Tryd.isAgg3 (by first | exact ldv_own rfl rfl | exact ldv_pp rfl | exact ldv_old (by assumption) rfl | exact ldv_ptr (by assumption) rfl)) ?_
                          refine stG rfl rfl rfl rfl rfl rfl (op_neq rfl rfl rfl) ?_
                          refine stG rfl rfl rfl rfl rfl rfl (op_pickTO rfl rfl rfl) ?_
                          refine st rfl rfl rfl (op_pickFO rfl rfl rfl) ?_
                          refine AOps_nil ?_
                          refine ⟨_, ?_, ⟨rfl, rfl, rfl, trivial⟩, rfl⟩
                          simp_all [jbad, List.length_pos_iff]
                        · rw [h45]; (try simp only [decide_eq_true_eq, decide_eq_false_iff_not, Bool.not_eq_true', Bool.not_eq_false', Int.not_lt, Int.not_le, Bool.not_true, Bool.not_false, Int.toNat_natCast, bne_iff_ne, beq_iff_eq, ne_eq, Decidable.not_not] at h45)
                          refine stS rfl rfl rfl (.inl rfl) rfl rfl ?_
                          refine stS rfl rfl rfl (.inl rfl) rfl rfl ?_
                          refine stS rfl rfl rfl (.inl rfl) rfl rfl ?_
                          refine stG rfl rfl rfl rfl rfl rfl (op_pickFO rfl rfl rfl) ?_
                          refine st rfl rfl rfl (op_pickFO rfl rfl rfl) ?_
                          refine AOps_nil ?_
                          refine ⟨_, ?_, ⟨rfl, rfl, rfl, trivial⟩, rfl⟩
                          simp_all [jbad, List.length_pos_iff]
                    · rw [h43]; (try simp only [decide_eq_true_eq, decide_eq_false_iff_not, Bool.not_eq_true', Bool.not_eq_false', Int.not_lt, Int.not_le, Bool.not_true, Bool.not_false, Int.toNat_natCast, bne_iff_ne, beq_iff_eq, ne_eq, Decidable.not_not] at h43)
                      refine stS rfl rfl rfl (.inl rfl) rfl rfl ?_
                      refine stS rfl rfl rfl (.inl rfl) rfl rfl ?_
                      refine stS rfl rfl rfl (.inl rfl) rfl rfl ?_
                      refine stG rfl rfl rfl rfl rfl rfl (op_pickFO rfl rfl rfl) ?_
                      refine st rfl rfl rfl (op_pickFO rfl rfl rfl) ?_
                      refine st rfl rfl rfl (op_moveO rfl rfl) ?_
                      refine stG rfl rfl rfl rfl rfl rfl (op_fieldAddrO (fo := 7) rfl Tryd.underlying28 rfl rfl Tryd.sizeOf26 (by decide) rfl trivial) ?_
                      refine stG rfl rfl rfl rfl rfl rfl (op_load1 rfl Tryd.isAgg26 (by first | exact ldv_own rfl rfl | exact ldv_pp rfl | exact ldv_old (by assumption) rfl | exact ldv_ptr (by assumption) rfl)) ?_
                      refine stG rfl rfl rfl rfl rfl rfl (op_lenS rfl rfl Tryd.underlying26 rfl rfl trivial) ?_
                      refine stG rfl rfl rfl rfl rfl rfl (op_gtr rfl rfl rfl) ?_
                      refine stG rfl rfl rfl rfl rfl rfl (op_moveO rfl rfl) ?_
                      refine AOps_split 76 rfl (fun h46 => ?_) (fun h46 => ?_)
                      · rw [h46]; (try simp only [decide_eq_true_eq, decide_eq_false_iff_not, Bool.not_eq_true', Bool.not_eq_false', Int.not_lt, Int.not_le, Bool.not_true, Bool.not_false, Int.toNat_natCast, bne_iff_ne, beq_iff_eq, ne_eq, Decidable.not_not] at h46)
                        refine stG rfl rfl rfl rfl rfl rfl (op_fieldAddrO (fo := 0) rfl Tryd.underlying28 rfl rfl Tryd.sizeOf3 (by decide) rfl trivial) ?_
                        refine stG rfl rfl rfl rfl rfl rfl (op_load1 rfl Tryd.isAgg3 (by first | exact ldv_own rfl rfl | exact ldv_pp rfl | exact ldv_old (by assumption) rfl | exact ldv_ptr (by assumption) rfl)) ?_
                        refine stG rfl rfl rfl rfl rfl rfl (op_neq rfl rfl rfl) ?_
                        refine stG rfl rfl rfl rfl rfl rfl (op_pickTO rfl rfl rfl) ?_
                        refine st rfl rfl rfl (op_pickFO rfl rfl rfl) ?_
                        refine AOps_nil ?_
                        refine ⟨_, ?_, ⟨rfl, rfl, rfl, trivial⟩, rfl⟩
                        simp_all [jbad, List.length_pos_iff]
                      · rw [h46]; (try simp only [decide_eq_true_eq, decide_eq_false_iff_not, Bool.not_eq_true', Bool.not_eq_false', Int.not_lt, Int.not_le, Bool.not_true, Bool.not_false, Int.toNat_natCast, bne_iff_ne, beq_iff_eq, ne_eq, Decidable.not_not] at h46)
                        refine stS rfl rfl rfl (.inl rfl) rfl rfl ?_
                        refine stS rfl rfl rfl (.inl rfl) rfl rfl ?_
                        refine stS rfl rfl rfl (.inl rfl) rfl rfl ?_
                        refine stG rfl rfl rfl rfl rfl rfl (op_pickFO rfl rfl rfl) ?_
                        refine st rfl rfl rfl (op_pickFO rfl rfl rfl) ?_
                        refine AOps_nil ?_
                        refine ⟨_, ?_, ⟨rfl, rfl, rfl, trivial⟩, rfl⟩
                        simp_all [jbad, List.length_pos_iff]
                · rw [h41]; (try simp only [decide_eq_true_eq, decide_eq_false_iff_not, Bool.not_eq_true', Bool.not_eq_false', Int.not_lt, Int.not_le, Bool.not_true, Bool.not_false, Int.toNat_natCast, bne_iff_ne, beq_iff_eq, ne_eq, Decidable.not_not] at h41)
                  refine stS rfl rfl rfl (.inl rfl) rfl rfl ?_
                  refine stS rfl rfl rfl (.inl rfl) rfl rfl ?_
                  refine stS rfl rfl rfl (.inl rfl) rfl rfl ?_
                  refine stG rfl rfl rfl rfl rfl rfl (op_pickFO rfl rfl rfl) ?_
                  refine st rfl rfl rfl (op_pickFO rfl rfl rfl) ?_
                  refine st rfl rfl rfl (op_moveO rfl rfl) ?_
                  refine stG rfl rfl rfl rfl rfl rfl (op_fieldAddrO (fo := 6) rfl Tryd.underlying28 rfl rfl Tryd.sizeOf25 (by decide) rfl trivial) ?_
                  refine stG rfl rfl rfl rfl rfl rfl (op_load1 rfl Tryd.isAgg25 (by first | exact ldv_own rfl rfl | exact ldv_pp rfl | exact ldv_old (by assumption) rfl | exact ldv_ptr (by assumption) rfl)) ?_
                  refine stG rfl rfl rfl rfl rfl rfl (op_lenS rfl rfl Tryd.underlying25 rfl rfl trivial) ?_
                  refine stG rfl rfl rfl rfl rfl rfl (op_gtr rfl rfl rfl) ?_
                  refine stG rfl rfl rfl rfl rfl rfl (op_moveO rfl rfl) ?_
                  refine AOps_split 65 rfl (fun h47 => ?_) (fun h47 => ?_)
                  · rw [h47]; (try simp only [decide_eq_true_eq, decide_eq_false_iff_not, Bool.not_eq_true', Bool.not_eq_false', Int.not_lt, Int.not_le, Bool.not_true, Bool.not_false, Int.toNat_natCast, bne_iff_ne, beq_iff_eq, ne_eq, Decidable.not_not] at h47)
                    refine stG rfl rfl rfl rfl rfl rfl (op_fieldAddrO (fo := 0) rfl Tryd.underlying28 rfl rfl Tryd.sizeOf3 (by decide) rfl trivial) ?_
                    refine stG rfl rfl rfl rfl rfl rfl (op_load1 rfl Tryd.isAgg3 (by first | exact ldv_own rfl rfl | exact ldv_pp rfl | exact ldv_old (by assumption) rfl | exact ldv_ptr (by assumption) rfl)) ?_
                    refine stG rfl rfl rfl rfl rfl rfl (op_neq rfl rfl rfl) ?_
                    refine stG rfl rfl rfl rfl rfl rfl (op_pickTO rfl rfl rfl) ?_
                    refine st rfl rfl rfl (op_pickFO rfl rfl rfl) ?_
                    refine st rfl rfl rfl (op_moveO rfl rfl) ?_
                    refine AOps_split 71 rfl (fun h48 => ?_) (fun h48 => ?_)
                    · rw [h48]; (try simp only [decide_eq_true_eq, decide_eq_false_iff_not, Bool.not_eq_true', Bool.not_eq_false', Int.not_lt, Int.not_le, Bool.not_true, Bool.not_false, Int.toNat_natCast, bne_iff_ne, beq_iff_eq, ne_eq, Decidable.not_not] at h48)
                      refine stS rfl rfl rfl (.inl rfl) rfl rfl ?_
                      refine stS rfl rfl rfl (.inl rfl) rfl rfl ?_
                      refine stS rfl rfl rfl (.inl rfl) rfl rfl ?_
                      refine stS rfl rfl rfl (.inl rfl) rfl rfl ?_
                      refine stS rfl rfl rfl (.inl rfl) rfl rfl ?_
                      refine stS rfl rfl rfl (.inr rfl) rfl rfl ?_
                      refine stS rfl rfl rfl (.inr rfl) rfl rfl ?_
                      refine stS rfl rfl rfl (.inr rfl) rfl rfl ?_
                      refine stS rfl rfl rfl (.inl rfl) rfl rfl ?_
                      refine st rfl rfl rfl (op_pickTO rfl rfl rfl) ?_
                      refine AOps_nil ?_
                      refine ⟨_, ?_, ⟨rfl, rfl, rfl, trivial⟩, rfl⟩
                      simp_all [jbad, List.length_pos_iff]
                    · rw [h48]; (try simp only [decide_eq_true_eq, decide_eq_false_iff_not, Bool.not_eq_true', Bool.not_eq_false', Int.not_lt, Int.not_le, Bool.not_true, Bool.not_false, Int.toNat_natCast, bne_iff_ne, beq_iff_eq, ne_eq, Decidable.not_not] at h48)
                      refine stG rfl rfl rfl rfl rfl rfl (op_fieldAddrO (fo := 7) rfl Tryd.underlying28 rfl rfl Tryd.sizeOf26 (by decide) rfl trivial) ?_
                      refine stG rfl rfl rfl rfl rfl rfl (op_load1 rfl Tryd.isAgg26 (by first | exact ldv_own rfl rfl | exact ldv_pp rfl | exact ldv_old (by assumption) rfl | exact ldv_ptr (by assumption) rfl)) ?_
                      refine stG rfl rfl rfl rfl rfl rfl (op_lenS rfl rfl Tryd.underlying26 rfl rfl trivial) ?_
                      refine stG rfl rfl rfl rfl rfl rfl (op_gtr rfl rfl rfl) ?_
                      refine stG rfl rfl rfl rfl rfl rfl (op_moveO rfl rfl) ?_
                      refine AOps_split 76 rfl (fun h49 => ?_) (fun h49 => ?_)
                      · rw [h49]; (try simp only [decide_eq_true_eq, decide_eq_false_iff_not, Bool.not_eq_true', Bool.not_eq_false', Int.not_lt, Int.not_le, Bool.not_true, Bool.not_false, Int.toNat_natCast, bne_iff_ne, beq_iff_eq, ne_eq, Decidable.not_not] at h49)
                        refine stG rfl rfl rfl rfl rfl rfl (op_fieldAddrO (fo := 0) rfl Tryd.underlying28 rfl rfl Tryd.sizeOf3 (by decide) rfl trivial) ?_
                        refine stG rfl rfl rfl rfl rfl rfl (op_load1 rfl Tryd.isAgg3 (by first | exact ldv_own rfl rfl | exact ldv_pp rfl | exact ldv_old (by assumption) rfl | exact ldv_ptr (by assumption) rfl)) ?_
                        refine stG rfl rfl rfl rfl rfl rfl (op_neq rfl rfl rfl) ?_
                        refine stG rfl rfl rfl rfl rfl rfl (op_pickTO rfl rfl rfl) ?_
                        refine st rfl rfl rfl (op_pickFO rfl rfl rfl) ?_
                        refine AOps_nil ?_
                        refine ⟨_, ?_, ⟨rfl, rfl, rfl, trivial⟩, rfl⟩
                        simp_all [jbad, List.length_pos_iff]
                      · rw [h49]; (try simp only [decide_eq_true_eq, decide_eq_false_iff_not, Bool.not_eq_true', Bool.not_eq_false', Int.not_lt, Int.not_le, Bool.not_true, Bool.not_false, Int.toNat_natCast, bne_iff_ne, beq_iff_eq, ne_eq, Decidable.not_not] at h49)
                        refine stS rfl rfl rfl (.inl rfl) rfl rfl ?_
                        refine stS rfl rfl rfl (.inl rfl) rfl rfl ?_
                        refine stS rfl rfl rfl (.inl rfl) rfl rfl ?_
                        refine stG rfl rfl rfl rfl rfl rfl (op_pickFO rfl rfl rfl) ?_
                        refine st rfl rfl rfl (op_pickFO rfl rfl rfl) ?_
                        refine AOps_nil ?_
                        refine ⟨_, ?_, ⟨rfl, rfl, rfl, trivial⟩, rfl⟩
                        simp_all [jbad, List.length_pos_iff]
                  · rw [h47]; (try simp only [decide_eq_true_eq, decide_eq_false_iff_not, Bool.not_eq_true', Bool.not_eq_false', Int.not_lt, Int.not_le, Bool.not_true, Bool.not_false, Int.toNat_natCast, bne_iff_ne, beq_iff_eq, ne_eq, Decidable.not_not] at h47)
                    refine stS rfl rfl rfl (.inl rfl) rfl rfl ?_
                    refine stS rfl rfl rfl (.inl rfl) rfl rfl ?_
                    refine stS rfl rfl rfl (.inl rfl) rfl rfl ?_
                    refine stG rfl rfl rfl rfl rfl rfl (op_pickFO rfl rfl rfl) ?_
                    refine st rfl rfl rfl (op_pickFO rfl rfl rfl) ?_
                    refine st rfl rfl rfl (op_moveO rfl rfl) ?_
                    refine stG rfl rfl rfl rfl rfl rfl (op_fieldAddrO (fo := 7) rfl Tryd.underlying28 rfl rfl Tryd.sizeOf26 (by decide) rfl trivial) ?_
                    refine stG rfl rfl rfl rfl rfl rfl (op_load1 rfl Tryd.isAgg26 (by first | exact ldv_own rfl rfl | exact ldv_pp rfl | exact ldv_old (by assumption) rfl | exact ldv_ptr (by assumption) rfl)) ?_
                    refine stG rfl rfl rfl rfl rfl rfl (op_lenS rfl rfl Tryd.underlying26 rfl rfl trivial) ?_
                    refine stG rfl rfl rfl rfl rfl rfl (op_gtr rfl rfl rfl) ?_
                    refine stG rfl rfl rfl rfl rfl rfl (op_moveO rfl rfl) ?_
                    refine AOps_split 76 rfl (fun h50 => ?_) (fun h50 => ?_)
                    · rw [h50]; (try simp only [decide_eq_true_eq, decide_eq_false_iff_not, Bool.not_eq_true', Bool.not_eq_false', Int.not_lt, Int.not_le, Bool.not_true, Bool.not_false, Int.toNat_natCast, bne_iff_ne, beq_iff_eq, ne_eq, Decidable.not_not] at h50)
                      refine stG rfl rfl rfl rfl rfl rfl (op_fieldAddrO (fo := 0) rfl Tryd.underlying28 rfl rfl Tryd.sizeOf3 (by decide) rfl trivial) ?_
                      refine stG rfl rfl rfl rfl rfl rfl (op_load1 rfl Tryd.isAgg3 (by first | exact ldv_own rfl rfl | exact ldv_pp rfl | exact ldv_old (by assumption) rfl | exact ldv_ptr (by assumption) rfl)) ?_
                      refine stG rfl rfl rfl rfl rfl rfl (op_neq rfl rfl rfl) ?_
                      refine stG rfl rfl rfl rfl rfl rfl (op_pickTO rfl rfl rfl) ?_
                      refine st rfl rfl rfl (op_pickFO rfl rfl rfl) ?_
                      refine AOps_nil ?_
                      refine ⟨_, ?_, ⟨rfl, rfl, rfl, trivial⟩, rfl⟩
                      simp_all [jbad, List.length_pos_iff]
                    · rw [h50]; (try simp only [decide_eq_true_eq, decide_eq_false_iff_not, Bool.not_eq_true', Bool.not_eq_false', Int.not_lt, Int.not_le, Bool.not_true, Bool.not_false, Int.toNat_natCast, bne_iff_ne, beq_iff_eq, ne_eq, Decidable.not_not] at h50)
                      refine stS rfl rfl rfl (.inl rfl) rfl rfl ?_
                      refine stS rfl rfl rfl (.inl rfl) rfl rfl ?_
                      refine stS rfl rfl rfl (.inl rfl) rfl rfl ?_
                      refine stG rfl rfl rfl rfl rfl rfl (op_pickFO rfl rfl rfl) ?_
                      refine st rfl rfl rfl (op_pickFO rfl rfl rfl) ?_
                      refine AOps_nil ?_
                      refine ⟨_, ?_, ⟨rfl, rfl, rfl, trivial⟩, rfl⟩
                      simp_all [jbad, List.length_pos_iff]
          · skip
            refine AWp_cond rfl (fun h51 => ?_) (fun h51 => ?_)
            · (try rw [h51]); (try simp only [decide_eq_true_eq, decide_eq_false_iff_not, Bool.not_eq_true', Bool.not_eq_false', Int.not_lt, Int.not_le, Bool.not_true, Bool.not_false, Int.toNat_natCast, bne_iff_ne, beq_iff_eq, ne_eq, Decidable.not_not] at h51)
              refine AWp_seq ?_
              -- region 6 ref.go:403
              refine AWp_regL ?_
              refine st rfl rfl rfl (op_assignO rfl rfl) ?_
              refine AOps_nil ?_
              refine AWp_ret ?_
              (try simp only [blockQ, thenQ])
              refine ResQ_1 rfl hcl trivial (Ret_of (bool_f ?_))
              rw [jmay_eq]; intro hj0; obtain ⟨⟨j1, j2, j3, j4, j5⟩, _⟩ := hj0
              rw [jbad_eq j4, j3, h51] at hj; cases hj
            · (try rw [h51]); (try simp only [decide_eq_true_eq, decide_eq_false_iff_not, Bool.not_eq_true', Bool.not_eq_false', Int.not_lt, Int.not_le, Bool.not_true, Bool.not_false, Int.toNat_natCast, bne_iff_ne, beq_iff_eq, ne_eq, Decidable.not_not] at h51)
              refine AWp_skip ?_
              refine AWp_seq ?_
              refine AWp_seq ?_
              -- region 7 ref.go:405
              refine AWp_regL ?_
              refine st rfl rfl rfl (op_assignO rfl rfl) ?_
              refine AOps_nil ?_
              refine AWp_block ?_
              -- loop 0 LIVE 1:box 2:assign 5:assign
              refine AWp_loop (ι := Nat) (fun i => i ≤ v.l.length ∧ ∀ (j : Nat) x, j < i → v.l[j]? = some x → jmay x) (fun i => ⟨[], [(1, .ptr (σ.length + 0) 0), (5, .int .i64 (i : Int))]⟩) (fun i => σ ++ [_]) (fun i => v.l.length - i) (0) (⟨Nat.zero_le _, fun j x hj => absurd hj (by omega)⟩) ?_ rfl (fun i hi => ?_)
              · exact ⟨rfl, rfl, rfl, trivial⟩
              obtain ⟨hi1, hi2⟩ := hi
              have hll : (lcells v.l).length = v.l.length := lcells_length _
              refine AWp_seq ?_
              refine AWp_seq ?_
              -- region 8 ref.go:405
              refine AWp_regL ?_
              refine st rfl rfl rfl (op_moveO rfl rfl) ?_
              refine st rfl rfl rfl (op_fieldAddrO (fo := 6) rfl Tryd.underlying28 rfl rfl Tryd.sizeOf25 (by decide) rfl trivial) ?_
              refine st rfl rfl rfl (op_load1 rfl Tryd.isAgg25 (by first | exact ldv_own rfl rfl | exact ldv_pp rfl | exact ldv_old (by assumption) rfl | exact ldv_ptr (by assumption) rfl)) ?_
              refine st rfl rfl rfl (op_lenS rfl rfl Tryd.underlying25 rfl rfl trivial) ?_
              refine st rfl rfl rfl (op_lss rfl rfl rfl) ?_
              refine AOps_nil ?_
              refine AWp_cond rfl (fun h52 => ?_) (fun h52 => ?_)
              · (try rw [h52]); (try simp only [decide_eq_true_eq, decide_eq_false_iff_not, Bool.not_eq_true', Bool.not_eq_false', Int.not_lt, Int.not_le, Bool.not_true, Bool.not_false, Int.toNat_natCast, bne_iff_ne, beq_iff_eq, ne_eq, Decidable.not_not] at h52)
                obtain ⟨x, hx⟩ : ∃ x, v.l[i]? = some x := ⟨_, List.getElem?_eq_getElem (show i < v.l.length by omega)⟩
                have hlm := lsize_mem hx
                refine AWp_skip ?_
                refine AWp_seq ?_
                refine AWp_block ?_
                refine AWp_seq ?_
                -- region 10 ref.go:406
                refine AWp_regL ?_
                refine st rfl rfl rfl (op_fieldAddrO (fo := 6) rfl Tryd.underlying28 rfl rfl Tryd.sizeOf25 (by decide) rfl trivial) ?_
                refine st rfl rfl rfl (op_load1 rfl Tryd.isAgg25 (by first | exact ldv_own rfl rfl | exact ldv_pp rfl | exact ldv_old (by assumption) rfl | exact ldv_ptr (by assumption) rfl)) ?_
                refine st rfl rfl rfl (op_moveO rfl rfl) ?_
                refine st rfl rfl rfl ((by first | exact op_indexAddr rfl Tryd.underlying25 Tryd.sizeOf28 rfl rfl (by omega) (by first | exact lcells_get (by assumption) | exact mcells_get (by assumption) | exact brows_at (by omega) | assumption) | fail)) ?_
                rw [vcells_eq x]
                refine st rfl rfl rfl (op_loadK (cs := [_, _, _, _, _, _, _, _]) rfl Tryd.isAgg28 Tryd.sizeOf28 (by first | exact ldv_own rfl rfl | exact ldv_pp rfl | exact ldv_old (by assumption) rfl | exact ldv_ptr (by assumption) rfl)) ?_
                refine st rfl rfl rfl (op_callF rfl rfl rfl Tryd.func10 rfl rfl (vcells_eq x ▸ ih x _ (by omega) (lb_get hb5 hx))) ?_
                refine st rfl rfl rfl (op_assignO rfl rfl) ?_
                refine AOps_nil ?_
                refine AWp_seq ?_
                -- region 11 ref.go:407
                refine AWp_regL ?_
                refine st rfl rfl rfl (op_moveO rfl rfl) ?_
                refine st rfl rfl rfl (op_not rfl rfl) ?_
                refine AOps_nil ?_
                refine AWp_cond rfl (fun h53 => ?_) (fun h53 => ?_)
                · (try rw [h53]); (try simp only [decide_eq_true_eq, decide_eq_false_iff_not, Bool.not_eq_true', Bool.not_eq_false', Int.not_lt, Int.not_le, Bool.not_true, Bool.not_false, Int.toNat_natCast, bne_iff_ne, beq_iff_eq, ne_eq, Decidable.not_not] at h53)
                  refine AWp_seq ?_
                  -- region 12 ref.go:408
                  refine AWp_regL ?_
                  refine st rfl rfl rfl (op_assignO rfl rfl) ?_
                  refine AOps_nil ?_
                  refine AWp_ret ?_
                  (try simp only [blockQ, thenQ])
                  refine ResQ_1 rfl hcl trivial (Ret_of (bool_f ?_))
                  rw [jmay_eq]; intro hj0; have := pb_t (hj0.2.2 i x hx); rw [h53] at this; cases this
                · (try rw [h53]); (try simp only [decide_eq_true_eq, decide_eq_false_iff_not, Bool.not_eq_true', Bool.not_eq_false', Int.not_lt, Int.not_le, Bool.not_true, Bool.not_false, Int.toNat_natCast, bne_iff_ne, beq_iff_eq, ne_eq, Decidable.not_not] at h53)
                  refine AWp_skip ?_
                  -- region 9 ref.go:405
                  refine AWp_regL ?_
                  refine st rfl rfl rfl (op_moveO rfl rfl) ?_
                  refine st rfl rfl rfl (op_add64 rfl rfl rfl (by omega) (by omega)) ?_
                  refine st rfl rfl rfl (op_assignO rfl rfl) ?_
                  refine AOps_nil ?_
                  refine ⟨i + 1, σ.length + 1, ⟨by omega, fun j y hj hy => ?_⟩, by omega, by simp, ⟨rfl, rfl, rfl, trivial⟩, closed_own 1 hcl ?_, ?_, take_own 1⟩
                  · by_cases e : j = i
                    · subst e; rw [hx] at hy; cases hy; exact (pb_iff _).1 h53
                    · exact hi2 j y (by omega) hy
                  · simp [ownLt, AO.cells, AV.ltL, AV.lt]
                  · simp [ltE, AV.lt]
              · (try rw [h52]); (try simp only [decide_eq_true_eq, decide_eq_false_iff_not, Bool.not_eq_true', Bool.not_eq_false', Int.not_lt, Int.not_le, Bool.not_true, Bool.not_false, Int.toNat_natCast, bne_iff_ne, beq_iff_eq, ne_eq, Decidable.not_not] at h52)
                have hie : i = v.l.length := by omega
                have hL : ∀ (j : Nat) x, v.l[j]? = some x → jmay x := fun j x hx => hi2 j x (by have := (List.getElem?_eq_some_iff.1 hx).1; omega) hx
                clear hi2 hi1 hie
                refine AWp_exit ?_
                refine AWp_seq ?_
                refine AWp_seq ?_
                -- region 13 ref.go:411
                refine AWp_regL ?_
                refine st rfl rfl rfl (op_assignO rfl rfl) ?_
                refine AOps_nil ?_
                refine AWp_block ?_
                -- loop 1 LIVE 1:box 2:assign 7:assign
                refine AWp_loop (ι := Nat) (fun i => i ≤ v.m.length ∧ mok v.m i) (fun i => ⟨[], [(1, .ptr (σ.length + 0) 0), (7, .int .i64 (i : Int))]⟩) (fun i => σ ++ [_]) (fun i => v.m.length - i) (0) (⟨Nat.zero_le _, fun j x hj => absurd hj (by omega)⟩) ?_ rfl (fun i hi => ?_)
                · exact ⟨rfl, rfl, rfl, trivial⟩
                obtain ⟨hi3, hi4⟩ := hi
                have hml : (mcells v.m).length = v.m.length := mcells_length _
                refine AWp_seq ?_
                refine AWp_seq ?_
                -- region 14 ref.go:411
                refine AWp_regL ?_
                refine st rfl rfl rfl (op_moveO rfl rfl) ?_
                refine st rfl rfl rfl (op_fieldAddrO (fo := 7) rfl Tryd.underlying28 rfl rfl Tryd.sizeOf26 (by decide) rfl trivial) ?_
                refine st rfl rfl rfl (op_load1 rfl Tryd.isAgg26 (by first | exact ldv_own rfl rfl | exact ldv_pp rfl | exact ldv_old (by assumption) rfl | exact ldv_ptr (by assumption) rfl)) ?_
                refine st rfl rfl rfl (op_lenS rfl rfl Tryd.underlying26 rfl rfl trivial) ?_
                refine st rfl rfl rfl (op_lss rfl rfl rfl) ?_
                refine AOps_nil ?_
                refine AWp_cond rfl (fun h54 => ?_) (fun h54 => ?_)
                · (try rw [h54]); (try simp only [decide_eq_true_eq, decide_eq_false_iff_not, Bool.not_eq_true', Bool.not_eq_false', Int.not_lt, Int.not_le, Bool.not_true, Bool.not_false, Int.toNat_natCast, bne_iff_ne, beq_iff_eq, ne_eq, Decidable.not_not] at h54)
                  obtain ⟨q, hq⟩ : ∃ q, v.m[i]? = some q := ⟨_, List.getElem?_eq_getElem (show i < v.m.length by omega)⟩
                  have hqb := mb_get hb6 hq
                  have hms := msize_mem hq
                  have hnm : (¬ ((Utf q.1 ∧ ∀ q', i ≠ 0 → v.m[i - 1]? = some q' → blt q'.1 q.1 = true) ∧ jmay q.2)) → ¬ jmay v := fun h hv => h (((jmay_eq v).1 hv).2.1 i q (by omega) hq)
                  refine AWp_skip ?_
                  refine AWp_seq ?_
                  refine AWp_block ?_
                  refine AWp_seq ?_
                  -- region 16 ref.go:412
                  refine AWp_regL ?_
                  refine st rfl rfl rfl (op_fieldAddrO (fo := 7) rfl Tryd.underlying28 rfl rfl Tryd.sizeOf26 (by decide) rfl trivial) ?_
                  refine st rfl rfl rfl (op_load1 rfl Tryd.isAgg26 (by first | exact ldv_own rfl rfl | exact ldv_pp rfl | exact ldv_old (by assumption) rfl | exact ldv_ptr (by assumption) rfl)) ?_
                  refine st rfl rfl rfl (op_moveO rfl rfl) ?_
                  refine st rfl rfl rfl ((by first | exact op_indexAddr rfl Tryd.underlying26 Tryd.sizeOf30 rfl rfl (by omega) (by first | exact lcells_get (by assumption) | exact mcells_get (by assumption) | exact brows_at (by omega) | assumption) | fail)) ?_
                  refine st rfl rfl rfl (op_fieldAddrO (fo := 1) rfl Tryd.underlying30 rfl rfl Tryd.sizeOf28 (by decide) rfl trivial) ?_
                  rw [vcells_eq q.2]
                  refine st rfl rfl rfl (op_loadK (cs := [_, _, _, _, _, _, _, _]) rfl Tryd.isAgg28 Tryd.sizeOf28 (by first | exact ldv_own rfl rfl | exact ldv_pp rfl | exact ldv_old (by assumption) rfl | exact ldv_ptr (by assumption) rfl)) ?_
                  refine st rfl rfl rfl (op_callF rfl rfl rfl Tryd.func10 rfl rfl (vcells_eq q.2 ▸ ih q.2 _ (by omega) hqb.2)) ?_
                  refine st rfl rfl rfl (op_assignO rfl rfl) ?_
                  refine AOps_nil ?_
                  refine AWp_seq ?_
                  -- region 17 ref.go:413
                  refine AWp_regL ?_
                  refine st rfl rfl rfl (op_fieldAddrO (fo := 7) rfl Tryd.underlying28 rfl rfl Tryd.sizeOf26 (by decide) rfl trivial) ?_
                  refine st rfl rfl rfl (op_load1 rfl Tryd.isAgg26 (by first | exact ldv_own rfl rfl | exact ldv_pp rfl | exact ldv_old (by assumption) rfl | exact ldv_ptr (by assumption) rfl)) ?_
                  refine st rfl rfl rfl (op_moveO rfl rfl) ?_
                  refine st rfl rfl rfl ((by first | exact op_indexAddr rfl Tryd.underlying26 Tryd.sizeOf30 rfl rfl (by omega) (by first | exact lcells_get (by assumption) | exact mcells_get (by assumption) | exact brows_at (by omega) | assumption) | fail)) ?_
                  refine st rfl rfl rfl (op_fieldAddrO (fo := 0) rfl Tryd.underlying30 rfl rfl Tryd.sizeOf9 (by decide) rfl trivial) ?_
                  refine st rfl rfl rfl (op_load1 rfl Tryd.isAgg9 (by first | exact ldv_own rfl rfl | exact ldv_pp rfl | exact ldv_old (by assumption) rfl | exact ldv_ptr (by assumption) rfl)) ?_
                  refine st rfl rfl rfl (op_callF rfl rfl rfl Tryd.func24 rfl rfl (text_c q.1 _ (by omega))) ?_
                  refine st rfl rfl rfl (op_assignO rfl rfl) ?_
                  refine AOps_nil ?_
                  refine AWp_seq ?_
                  refine AWp_seq ?_
                  -- region 18 ref.go:414
                  refine AWp_regL ?_
                  refine st rfl rfl rfl (op_moveO rfl rfl) ?_
                  refine st rfl rfl rfl (op_not rfl rfl) ?_
                  refine st rfl rfl rfl (op_moveO rfl rfl) ?_
                  refine AOps_split 120 rfl (fun h55 => ?_) (fun h55 => ?_)
                  · rw [h55]; (try simp only [decide_eq_true_eq, decide_eq_false_iff_not, Bool.not_eq_true', Bool.not_eq_false', Int.not_lt, Int.not_le, Bool.not_true, Bool.not_false, Int.toNat_natCast, bne_iff_ne, beq_iff_eq, ne_eq, Decidable.not_not] at h55)
                    refine stS rfl rfl rfl (.inl rfl) rfl rfl ?_
                    refine stS rfl rfl rfl (.inl rfl) rfl rfl ?_
                    refine st rfl rfl rfl (op_pickTO rfl rfl rfl) ?_
                    refine AOps_nil ?_
                    refine AWp_condT rfl ?_
                    refine AWp_seq ?_
                    -- region 19 ref.go:415
                    refine AWp_regL ?_
                    refine st rfl rfl rfl (op_assignO rfl rfl) ?_
                    refine AOps_nil ?_
                    refine AWp_ret ?_
                    (try simp only [blockQ, thenQ])
                    refine ResQ_1 rfl hcl trivial (Ret_of ?_)
                    refine bool_f (hnm ?_)
                    intro h; rw [pb_t h.2] at h55; cases h55
                  · rw [h55]; (try simp only [decide_eq_true_eq, decide_eq_false_iff_not, Bool.not_eq_true', Bool.not_eq_false', Int.not_lt, Int.not_le, Bool.not_true, Bool.not_false, Int.toNat_natCast, bne_iff_ne, beq_iff_eq, ne_eq, Decidable.not_not] at h55)
                    refine stG rfl rfl rfl rfl rfl rfl (op_moveO rfl rfl) ?_
                    refine stG rfl rfl rfl rfl rfl rfl (op_not rfl rfl) ?_
                    refine st rfl rfl rfl (op_pickFO rfl rfl rfl) ?_
                    refine AOps_nil ?_
                    refine AWp_cond rfl (fun h56 => ?_) (fun h56 => ?_)
                    · (try rw [h56]); (try simp only [decide_eq_true_eq, decide_eq_false_iff_not, Bool.not_eq_true', Bool.not_eq_false', Int.not_lt, Int.not_le, Bool.not_true, Bool.not_false, Int.toNat_natCast, bne_iff_ne, beq_iff_eq, ne_eq, Decidable.not_not] at h56)
                      refine AWp_seq ?_
                      -- region 19 ref.go:415
                      refine AWp_regL ?_
                      refine st rfl rfl rfl (op_assignO rfl rfl) ?_
                      refine AOps_nil ?_
                      refine AWp_ret ?_
                      (try simp only [blockQ, thenQ])
                      refine ResQ_1 rfl hcl trivial (Ret_of ?_)
                      refine bool_f (hnm ?_)
                      intro h; rw [pb_t h.1.1] at h56; cases h56
                    · (try rw [h56]); (try simp only [decide_eq_true_eq, decide_eq_false_iff_not, Bool.not_eq_true', Bool.not_eq_false', Int.not_lt, Int.not_le, Bool.not_true, Bool.not_false, Int.toNat_natCast, bne_iff_ne, beq_iff_eq, ne_eq, Decidable.not_not] at h56)
                      refine AWp_skip ?_
                      refine AWp_seq ?_
                      -- region 20 ref.go:417 DRAWN
                      refine AWp_drawL #[0, 1, 3, 7, 15, 7, 63, 127, 255, 7, 519, 7, 2055, 7687, 15879, 32263, 65535, 131071] Tryd.mixed (by decide +kernel) (by decide +kernel) ?_
                      refine rA rfl rfl rfl rfl (fun _ => op_moveO rfl rfl) ?_
                      refine rA rfl rfl rfl rfl (fun _ => op_gtr rfl rfl rfl) ?_
                      refine rA rfl rfl rfl rfl (fun _ => op_moveO rfl rfl) ?_
                      refine RP_split 126 rfl (fun h57 => ?_) (fun h57 => ?_)
                      · rw [h57]; (try simp only [decide_eq_true_eq, decide_eq_false_iff_not, Bool.not_eq_true', Bool.not_eq_false', Int.not_lt, Int.not_le, Bool.not_true, Bool.not_false, Int.toNat_natCast, bne_iff_ne, beq_iff_eq, ne_eq, Decidable.not_not] at h57)
                        obtain ⟨q1, hq1⟩ : ∃ q1, v.m[i - 1]? = some q1 := ⟨_, List.getElem?_eq_getElem (show i - 1 < v.m.length by omega)⟩
                        refine rAG rfl rfl rfl rfl rfl rfl rfl (fun _ => op_fieldAddrO (fo := 7) rfl Tryd.underlying28 rfl rfl Tryd.sizeOf26 (by decide) rfl trivial) ?_
                        refine rPG rfl rfl rfl rfl rfl rfl rfl (op_load1 rfl Tryd.isAgg26 (by first | exact ldv_own rfl rfl | exact ldv_pp rfl | exact ldv_old (by assumption) rfl | exact ldv_ptr (by assumption) rfl)) (trivial) ?_
                        refine rAG rfl rfl rfl rfl rfl rfl rfl (fun _ => op_moveO rfl rfl) ?_
                        refine rAG rfl rfl rfl rfl rfl rfl rfl (fun _ => (by first | exact op_indexAddr rfl Tryd.underlying26 Tryd.sizeOf30 rfl rfl (by omega) (by first | exact lcells_get (by assumption) | exact mcells_get (by assumption) | exact brows_at (by omega) | assumption) | fail)) ?_
                        refine rAG rfl rfl rfl rfl rfl rfl rfl (fun _ => op_fieldAddrO (fo := 0) rfl Tryd.underlying30 rfl rfl Tryd.sizeOf9 (by decide) rfl trivial) ?_
                        refine rPG rfl rfl rfl rfl rfl rfl rfl (op_load1 rfl Tryd.isAgg9 (by first | exact ldv_own rfl rfl | exact ldv_pp rfl | exact ldv_old (by assumption) rfl | exact ldv_ptr (by assumption) rfl)) (trivial) ?_
                        refine rAG rfl rfl rfl rfl rfl rfl rfl (fun _ => op_fieldAddrO (fo := 7) rfl Tryd.underlying28 rfl rfl Tryd.sizeOf26 (by decide) rfl trivial) ?_
                        refine rPG rfl rfl rfl rfl rfl rfl rfl (op_load1 rfl Tryd.isAgg26 (by first | exact ldv_own rfl rfl | exact ldv_pp rfl | exact ldv_old (by assumption) rfl | exact ldv_ptr (by assumption) rfl)) (trivial) ?_
                        refine rAG rfl rfl rfl rfl rfl rfl rfl (fun _ => op_moveO rfl rfl) ?_
                        refine rAG rfl rfl rfl rfl rfl rfl rfl (fun _ => op_sub64 rfl rfl rfl (by omega) (by omega)) ?_
                        refine rAG rfl rfl rfl rfl rfl rfl rfl (fun _ => op_indexAddr rfl Tryd.underlying26 Tryd.sizeOf30 rfl rfl (by omega) (by rw [show ((i : Int) - 1).toNat = i - 1 by omega]; exact mcells_get hq1)) ?_
                        refine rAG rfl rfl rfl rfl rfl rfl rfl (fun _ => op_fieldAddrO (fo := 0) rfl Tryd.underlying30 rfl rfl Tryd.sizeOf9 (by decide) rfl trivial) ?_
                        refine rPG rfl rfl rfl rfl rfl rfl rfl (op_load1 rfl Tryd.isAgg9 (by first | exact ldv_own rfl rfl | exact ldv_pp rfl | exact ldv_old (by assumption) rfl | exact ldv_ptr (by assumption) rfl)) (trivial) ?_
                        refine rAG rfl rfl rfl rfl rfl rfl rfl (fun _ => op_sleq rfl rfl rfl) ?_
                        refine rA rfl rfl rfl rfl (fun _ => op_pickTO rfl rfl rfl) ?_
                        refine RP.nil rfl ?_
                        refine AWp_cond rfl (fun h58 => ?_) (fun h58 => ?_)
                        · (try rw [h58]); (try simp only [decide_eq_true_eq, decide_eq_false_iff_not, Bool.not_eq_true', Bool.not_eq_false', Int.not_lt, Int.not_le, Bool.not_true, Bool.not_false, Int.toNat_natCast, bne_iff_ne, beq_iff_eq, ne_eq, Decidable.not_not] at h58)
                          replace h58 := blt_le h58
                          refine AWp_seq ?_
                          -- region 21 ref.go:418
                          refine AWp_regL ?_
                          refine st rfl rfl rfl (op_assignO rfl rfl) ?_
                          refine AOps_nil ?_
                          refine AWp_ret ?_
                          (try simp only [blockQ, thenQ])
                          refine ResQ_1 rfl hcl trivial (Ret_of ?_)
                          refine bool_f (hnm ?_)
                          intro h; have := h.1.2 q1 (by omega) hq1; rw [this] at h58; cases h58
                        · (try rw [h58]); (try simp only [decide_eq_true_eq, decide_eq_false_iff_not, Bool.not_eq_true', Bool.not_eq_false', Int.not_lt, Int.not_le, Bool.not_true, Bool.not_false, Int.toNat_natCast, bne_iff_ne, beq_iff_eq, ne_eq, Decidable.not_not] at h58)
                          replace h58 := blt_gt h58
                          refine AWp_skip ?_
                          -- region 15 ref.go:411
                          refine AWp_regL ?_
                          refine st rfl rfl rfl (op_moveO rfl rfl) ?_
                          refine st rfl rfl rfl (op_add64 rfl rfl rfl (by omega) (by omega)) ?_
                          refine st rfl rfl rfl (op_assignO rfl rfl) ?_
                          refine AOps_nil ?_
                          refine ⟨i + 1, σ.length + 1, ⟨by omega, ?_⟩, by omega, by simp, ⟨rfl, rfl, rfl, trivial⟩, closed_own 1 hcl ?_, ?_, take_own 1⟩
                          · rw [mok_succ hq]; exact ⟨hi4, ⟨(pb_iff _).1 h56, fun q2 _ hq2 => by rw [hq1] at hq2; cases hq2; exact h58⟩, (pb_iff _).1 h55⟩
                          · simp [ownLt, AO.cells, AV.ltL, AV.lt]
                          · simp [ltE, AV.lt]
                      · rw [h57]; (try simp only [decide_eq_true_eq, decide_eq_false_iff_not, Bool.not_eq_true', Bool.not_eq_false', Int.not_lt, Int.not_le, Bool.not_true, Bool.not_false, Int.toNat_natCast, bne_iff_ne, beq_iff_eq, ne_eq, Decidable.not_not] at h57)
                        have hi0 : i = 0 := by omega
                        refine rS rfl rfl rfl rfl (.inl rfl) rfl rfl ?_
                        refine rS rfl rfl rfl rfl (.inl rfl) rfl rfl ?_
                        refine rS rfl rfl rfl rfl (.inl rfl) rfl rfl ?_
                        refine rS rfl rfl rfl rfl (.inl rfl) rfl rfl ?_
                        refine rS rfl rfl rfl rfl (.inl rfl) rfl rfl ?_
                        refine rS rfl rfl rfl rfl (.inl rfl) rfl rfl ?_
                        refine rS rfl rfl rfl rfl (.inl rfl) rfl rfl ?_
                        refine rS rfl rfl rfl rfl (.inl rfl) rfl rfl ?_
                        refine rS rfl rfl rfl rfl (.inl rfl) rfl rfl ?_
                        refine rS rfl rfl rfl rfl (.inl rfl) rfl rfl ?_
                        refine rS rfl rfl rfl rfl (.inl rfl) rfl rfl ?_
                        refine rS rfl rfl rfl rfl (.inl rfl) rfl rfl ?_
                        refine rS rfl rfl rfl rfl (.inl rfl) rfl rfl ?_
                        refine rS rfl rfl rfl rfl (.inl rfl) rfl rfl ?_
                        refine rA rfl rfl rfl rfl (fun _ => op_pickFO rfl rfl rfl) ?_
                        refine RP.nil rfl ?_
                        refine AWp_condF rfl ?_
                        refine AWp_skip ?_
                        -- region 15 ref.go:411
                        refine AWp_regL ?_
                        refine st rfl rfl rfl (op_moveO rfl rfl) ?_
                        refine st rfl rfl rfl (op_add64 rfl rfl rfl (by omega) (by omega)) ?_
                        refine st rfl rfl rfl (op_assignO rfl rfl) ?_
                        refine AOps_nil ?_
                        refine ⟨i + 1, σ.length + 1, ⟨by omega, ?_⟩, by omega, by simp, ⟨rfl, rfl, rfl, trivial⟩, closed_own 1 hcl ?_, ?_, take_own 1⟩
                        · rw [mok_succ hq]; exact ⟨hi4, ⟨(pb_iff _).1 h56, fun q2 h _ => absurd hi0 h⟩, (pb_iff _).1 h55⟩
                        · simp [ownLt, AO.cells, AV.ltL, AV.lt]
                        · simp [ltE, AV.lt]
                · (try rw [h54]); (try simp only [decide_eq_true_eq, decide_eq_false_iff_not, Bool.not_eq_true', Bool.not_eq_false', Int.not_lt, Int.not_le, Bool.not_true, Bool.not_false, Int.toNat_natCast, bne_iff_ne, beq_iff_eq, ne_eq, Decidable.not_not] at h54)
                  have hie : i = v.m.length := by omega
                  rw [hie] at hi4
                  refine AWp_exit ?_
                  refine AWp_seq ?_
                  -- region 22 ref.go:421
                  refine AWp_regL ?_
                  refine st rfl rfl rfl (op_assignO rfl rfl) ?_
                  refine AOps_nil ?_
                  refine AWp_ret ?_
                  (try simp only [blockQ, thenQ])
                  refine ResQ_1 rfl hcl trivial (Ret_of (bool_t ((jmay_eq v).2 ⟨⟨by omega, by omega, ?_, (pb_iff _).1 h3, (pb_iff _).1 h4⟩, hi4, hL⟩)))
                  rw [jbad_eq ((pb_iff _).1 h3), h51] at hj; simpa using hj

end Lg
