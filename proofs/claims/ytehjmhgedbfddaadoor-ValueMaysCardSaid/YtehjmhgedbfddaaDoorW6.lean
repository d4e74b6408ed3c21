import Derived.Test.YtehjmhgedbfddaaDoorW5
import Derived.Test.YtehjmhgedbfddaaDoorLv5
import Derived.Test.YtehjmhgedbfddaaDoorProg
set_option linter.unusedVariables false
set_option linter.unusedSimpArgs false
set_option linter.unusedSectionVars false
set_option maxRecDepth 20000
set_option maxHeartbeats 4000000
namespace Lg
open Go Go.Proofs Go.RowKit
variable [GLay] [U8]


theorem may4_c (σ : List AO) : ACalls Tryd.prog 9 [.agg (vcells v4)] σ (Ret (.bool true) σ) := by
  have h := may_any 1 v4 σ (by rw [v4, jsize_nil]; decide) (jb_nil _ _ _ _ (by simp) (by simp)); rwa [pb_t may4] at h
theorem may6_c (σ : List AO) : ACalls Tryd.prog 9 [.agg (vcells v6)] σ (Ret (.bool false) σ) := by
  have h := may_any 1 v6 σ (by rw [v6, jsize_nil]; decide) (jb_nil _ _ _ _ (by simp) (by simp)); rwa [pb_f may6] at h
theorem size4_c (σ : List AO) : ACalls Tryd.prog 16 [.agg (vcells v4)] σ (Ret (.int .i64 1) σ) := by
  have h := size_any 1 v4 σ (by rw [v4, jsize_nil]; decide) (by decide); rwa [show jsize v4 = 1 from jsize_nil _ _ _ _] at h
theorem depth4_c (σ : List AO) : ACalls Tryd.prog 18 [.agg (vcells v4)] σ (Ret (.int .i64 1) σ) := by
  have h := depth_any 1 v4 σ (by rw [v4, jsize_nil]; decide) (by decide); rwa [jdepth4] at h
theorem same4_c (σ : List AO) : ACalls Tryd.prog 15 [.agg (vcells v4), .agg (vcells v4)] σ (Ret (.bool true) σ) := by
  have h := same_any 1 v4 v4 σ (by rw [v4, jsize_nil]; decide) (jb_nil _ _ _ _ (by simp) (by simp)) (jb_nil _ _ _ _ (by simp) (by simp)); rwa [pb_t rfl] at h
theorem up3_c (σ : List AO) : ACalls Tryd.prog 8 [] σ (Ret (.bool true) σ) := by
  refine ACalls_body Tryd.func8 rfl Tryd.ntmps8 (res1 Tryd.results8) (Nat.le_of_ble_eq_true rfl) (fun hcl hal => ?_)
  refine AWp_seq ?_
  -- region 0 law.go:12
  refine AWp_regL ?_
  refine st rfl rfl rfl (op_assignO rfl rfl) ?_
  refine AOps_nil ?_
  refine AWp_seq ?_
  -- region 1 law.go:13
  refine AWp_regL ?_
  refine st rfl rfl rfl (op_buildP (cs := [_, _, _, _, _, _, _, _]) [(0, 1), (1, 1), (2, 3), (5, 1), (6, 1), (7, 1)] rfl Tryd.underlying28 Tryd.zeroValue28 ⟨rfl, Tryd.sizeOf3, ⟨rfl, Tryd.sizeOf4, ⟨rfl, Tryd.sizeOf23, ⟨rfl, Tryd.sizeOf9, ⟨rfl, Tryd.sizeOf25, ⟨rfl, Tryd.sizeOf26, trivial⟩⟩⟩⟩⟩⟩ rfl rfl) ?_
  refine st rfl rfl rfl (op_alloc0 (cs := [_, _, _, _, _, _, _, _]) rfl Tryd.zeroValue28 rfl) ?_
  refine stN rfl rfl ((by first | exact op_storeO (r := [_, _, _, _, _, _, _, _]) rfl Tryd.sizeOf28 rfl rfl rfl rfl rfl (by decide) | exact op_storeP (r := [_, _, _, _, _, _, _, _]) rfl Tryd.sizeOf28 rfl rfl rfl (by assumption) rfl (by decide))) ?_
  refine AOps_nil ?_
  refine AWp_seq ?_
  -- region 2 law.go:14
  refine AWp_regL ?_
  refine st rfl rfl rfl (op_loadK (cs := [_, _, _, _, _, _, _, _]) rfl Tryd.isAgg28 Tryd.sizeOf28 (by first | exact ldv_own rfl rfl | exact ldv_pp rfl | exact ldv_old (by assumption) rfl | exact ldv_ptr (by assumption) rfl)) ?_
  refine st rfl rfl rfl (op_callF rfl rfl rfl Tryd.func9 rfl rfl (AC1c (vle8 nilL nilM) (may4_c _))) ?_
  refine st rfl rfl rfl (op_moveO rfl rfl) ?_
  refine stG rfl rfl rfl rfl rfl rfl (op_buildP (cs := [_, _, _, _, _, _, _, _]) [(0, 1), (1, 1), (2, 3), (5, 1), (6, 1), (7, 1)] rfl Tryd.underlying28 Tryd.zeroValue28 ⟨rfl, Tryd.sizeOf3, ⟨rfl, Tryd.sizeOf4, ⟨rfl, Tryd.sizeOf23, ⟨rfl, Tryd.sizeOf9, ⟨rfl, Tryd.sizeOf25, ⟨rfl, Tryd.sizeOf26, trivial⟩⟩⟩⟩⟩⟩ rfl rfl) ?_
  refine stG rfl rfl rfl rfl rfl rfl (op_callF rfl rfl rfl Tryd.func9 rfl rfl (AC1c (vle8 nilL nilM) (may6_c _))) ?_
  refine stG rfl rfl rfl rfl rfl rfl (op_not rfl rfl) ?_
  refine st rfl rfl rfl (op_pickTO rfl rfl rfl) ?_
  refine st rfl rfl rfl (op_moveO rfl rfl) ?_
  refine stG rfl rfl rfl rfl rfl rfl (op_loadK (cs := [_, _, _, _, _, _, _, _]) rfl Tryd.isAgg28 Tryd.sizeOf28 (by first | exact ldv_own rfl rfl | exact ldv_pp rfl | exact ldv_old (by assumption) rfl | exact ldv_ptr (by assumption) rfl)) ?_
  refine stG rfl rfl rfl rfl rfl rfl (op_callF rfl rfl rfl Tryd.func16 rfl rfl (AC1c (vle8 nilL nilM) (size4_c _))) ?_
  refine stG rfl rfl rfl rfl rfl rfl (op_eql rfl rfl rfl) ?_
  refine st rfl rfl rfl (op_pickTO rfl rfl rfl) ?_
  refine st rfl rfl rfl (op_moveO rfl rfl) ?_
  refine stG rfl rfl rfl rfl rfl rfl (op_loadK (cs := [_, _, _, _, _, _, _, _]) rfl Tryd.isAgg28 Tryd.sizeOf28 (by first | exact ldv_own rfl rfl | exact ldv_pp rfl | exact ldv_old (by assumption) rfl | exact ldv_ptr (by assumption) rfl)) ?_
  refine stG rfl rfl rfl rfl rfl rfl (op_callF rfl rfl rfl Tryd.func18 rfl rfl (AC1c (vle8 nilL nilM) (depth4_c _))) ?_
  refine stG rfl rfl rfl rfl rfl rfl (op_eql rfl rfl rfl) ?_
  refine st rfl rfl rfl (op_pickTO rfl rfl rfl) ?_
  refine st rfl rfl rfl (op_moveO rfl rfl) ?_
  refine stG rfl rfl rfl rfl rfl rfl (op_loadK (cs := [_, _, _, _, _, _, _, _]) rfl Tryd.isAgg28 Tryd.sizeOf28 (by first | exact ldv_own rfl rfl | exact ldv_pp rfl | exact ldv_old (by assumption) rfl | exact ldv_ptr (by assumption) rfl)) ?_
  refine stG rfl rfl rfl rfl rfl rfl (op_loadK (cs := [_, _, _, _, _, _, _, _]) rfl Tryd.isAgg28 Tryd.sizeOf28 (by first | exact ldv_own rfl rfl | exact ldv_pp rfl | exact ldv_old (by assumption) rfl | exact ldv_ptr (by assumption) rfl)) ?_
  refine stG rfl rfl rfl rfl rfl rfl (op_callF rfl rfl rfl Tryd.func15 rfl rfl (AC2c (vle8 nilL nilM) (vle8 nilL nilM) (same4_c _))) ?_
  refine st rfl rfl rfl (op_pickTO rfl rfl rfl) ?_
  refine st rfl rfl rfl (op_assignO rfl rfl) ?_
  refine AOps_nil ?_
  refine AWp_ret ?_
  (try simp only [blockQ, thenQ])
  exact ResQ_1 rfl hcl trivial ⟨rfl, rfl⟩

theorem mayB_c (v : JV) (σ : List AO) (h : jb v) (hs : jsize v ≤ 1000) : ACalls Tryd.prog 9 [.agg (vcells v)] σ (Ret (.bool (pb (jmay v))) σ) := may_any 1000 v σ hs h
theorem rmayB_c (v : JV) (σ : List AO) (h : jb v) (hs : jsize v ≤ 1000) : ACalls Tryd.prog 10 [.agg (vcells v)] σ (Ret (.bool (pb (jmay v))) σ) := rmay_any 1000 v σ hs h
theorem valueMays_c (kind : Int) (b : Bool) (n : JNum) (s key other : ByteArray) (list : Bool) (σ : List AO) : ACalls Tryd.prog 3 [.int .i64 kind, .bool b, .agg (ncells n), .str s, .str key, .str other, .bool list] σ (Ret (.bool true) σ) := by
  refine ACalls_body Tryd.func3 rfl Tryd.ntmps3 (res1 Tryd.results3) (Nat.le_of_ble_eq_true rfl) (fun hcl hal => ?_)
  refine AWp_seq ?_
  -- region 0 law.go:33
  refine AWp_regL ?_
  refine st rfl rfl rfl (op_box0 (cs := [_, _, _]) rfl rfl rfl) ?_
  refine st rfl rfl rfl (op_assignO rfl rfl) ?_
  refine AOps_nil ?_
  refine AWp_seq ?_
  -- region 1 law.go:34
  refine AWp_regL ?_
  refine st rfl rfl rfl (op_callF rfl rfl rfl Tryd.func8 rfl rfl (up3_c _)) ?_
  refine st rfl rfl rfl (op_assignO rfl rfl) ?_
  refine AOps_nil ?_
  refine AWp_seq ?_
  refine AWp_seq ?_
  -- region 2 law.go:35
  refine AWp_regL ?_
  refine st rfl rfl rfl (op_moveO rfl rfl) ?_
  refine st rfl rfl rfl (op_lenStr rfl rfl Tryd.underlying9 rfl) ?_
  refine st rfl rfl rfl (op_gtr rfl rfl rfl) ?_
  refine st rfl rfl rfl (op_moveO rfl rfl) ?_
  refine AOps_split 23 rfl (fun h1 => ?_) (fun h1 => ?_)
  · rw [h1]; (try simp only [decide_eq_true_eq, decide_eq_false_iff_not, Bool.not_eq_true', Bool.not_eq_false', Int.not_lt, Int.not_le, Bool.not_true, Bool.not_false, Int.toNat_natCast, bne_iff_ne, beq_iff_eq, beq_eq_false_iff_ne, ne_eq, Decidable.not_not] at h1)
    refine stS rfl rfl rfl (.inl rfl) rfl rfl ?_
    refine stS rfl rfl rfl (.inl rfl) rfl rfl ?_
    refine stS rfl rfl rfl (.inl rfl) rfl rfl ?_
    refine st rfl rfl rfl (op_pickTO rfl rfl rfl) ?_
    refine st rfl rfl rfl (op_moveO rfl rfl) ?_
    refine stS rfl rfl rfl (.inl rfl) rfl rfl ?_
    refine stS rfl rfl rfl (.inl rfl) rfl rfl ?_
    refine stS rfl rfl rfl (.inl rfl) rfl rfl ?_
    refine st rfl rfl rfl (op_pickTO rfl rfl rfl) ?_
    refine st rfl rfl rfl (op_moveO rfl rfl) ?_
    refine stS rfl rfl rfl (.inl rfl) rfl rfl ?_
    refine stS rfl rfl rfl (.inl rfl) rfl rfl ?_
    refine stS rfl rfl rfl (.inl rfl) rfl rfl ?_
    refine stS rfl rfl rfl (.inl rfl) rfl rfl ?_
    refine st rfl rfl rfl (op_pickTO rfl rfl rfl) ?_
    refine AOps_nil ?_
    refine AWp_condT rfl ?_
    refine AWp_seq ?_
    -- region 3 law.go:36
    refine AWp_regL ?_
    refine st rfl rfl rfl (op_moveO rfl rfl) ?_
    refine st rfl rfl rfl (op_assignO rfl rfl) ?_
    refine AOps_nil ?_
    refine AWp_ret ?_
    (try simp only [blockQ, thenQ])
    exact ResQ_1 rfl hcl trivial ⟨rfl, rfl⟩
  · rw [h1]; (try simp only [decide_eq_true_eq, decide_eq_false_iff_not, Bool.not_eq_true', Bool.not_eq_false', Int.not_lt, Int.not_le, Bool.not_true, Bool.not_false, Int.toNat_natCast, bne_iff_ne, beq_iff_eq, beq_eq_false_iff_ne, ne_eq, Decidable.not_not] at h1)
    refine stG rfl rfl rfl rfl rfl rfl (op_moveO rfl rfl) ?_
    refine stG rfl rfl rfl rfl rfl rfl (op_lenStr rfl rfl Tryd.underlying9 rfl) ?_
    refine stG rfl rfl rfl rfl rfl rfl (op_gtr rfl rfl rfl) ?_
    refine st rfl rfl rfl (op_pickFO rfl rfl rfl) ?_
    refine st rfl rfl rfl (op_moveO rfl rfl) ?_
    refine AOps_split 28 rfl (fun h2 => ?_) (fun h2 => ?_)
    · rw [h2]; (try simp only [decide_eq_true_eq, decide_eq_false_iff_not, Bool.not_eq_true', Bool.not_eq_false', Int.not_lt, Int.not_le, Bool.not_true, Bool.not_false, Int.toNat_natCast, bne_iff_ne, beq_iff_eq, beq_eq_false_iff_ne, ne_eq, Decidable.not_not] at h2)
      refine stS rfl rfl rfl (.inl rfl) rfl rfl ?_
      refine stS rfl rfl rfl (.inl rfl) rfl rfl ?_
      refine stS rfl rfl rfl (.inl rfl) rfl rfl ?_
      refine st rfl rfl rfl (op_pickTO rfl rfl rfl) ?_
      refine st rfl rfl rfl (op_moveO rfl rfl) ?_
      refine stS rfl rfl rfl (.inl rfl) rfl rfl ?_
      refine stS rfl rfl rfl (.inl rfl) rfl rfl ?_
      refine stS rfl rfl rfl (.inl rfl) rfl rfl ?_
      refine stS rfl rfl rfl (.inl rfl) rfl rfl ?_
      refine st rfl rfl rfl (op_pickTO rfl rfl rfl) ?_
      refine AOps_nil ?_
      refine AWp_condT rfl ?_
      refine AWp_seq ?_
      -- region 3 law.go:36
      refine AWp_regL ?_
      refine st rfl rfl rfl (op_moveO rfl rfl) ?_
      refine st rfl rfl rfl (op_assignO rfl rfl) ?_
      refine AOps_nil ?_
      refine AWp_ret ?_
      (try simp only [blockQ, thenQ])
      exact ResQ_1 rfl hcl trivial ⟨rfl, rfl⟩
    · rw [h2]; (try simp only [decide_eq_true_eq, decide_eq_false_iff_not, Bool.not_eq_true', Bool.not_eq_false', Int.not_lt, Int.not_le, Bool.not_true, Bool.not_false, Int.toNat_natCast, bne_iff_ne, beq_iff_eq, beq_eq_false_iff_ne, ne_eq, Decidable.not_not] at h2)
      refine stG rfl rfl rfl rfl rfl rfl (op_moveO rfl rfl) ?_
      refine stG rfl rfl rfl rfl rfl rfl (op_lenStr rfl rfl Tryd.underlying9 rfl) ?_
      refine stG rfl rfl rfl rfl rfl rfl (op_gtr rfl rfl rfl) ?_
      refine st rfl rfl rfl (op_pickFO rfl rfl rfl) ?_
      refine st rfl rfl rfl (op_moveO rfl rfl) ?_
      refine AOps_split 33 rfl (fun h3 => ?_) (fun h3 => ?_)
      · rw [h3]; (try simp only [decide_eq_true_eq, decide_eq_false_iff_not, Bool.not_eq_true', Bool.not_eq_false', Int.not_lt, Int.not_le, Bool.not_true, Bool.not_false, Int.toNat_natCast, bne_iff_ne, beq_iff_eq, beq_eq_false_iff_ne, ne_eq, Decidable.not_not] at h3)
        refine stS rfl rfl rfl (.inl rfl) rfl rfl ?_
        refine stS rfl rfl rfl (.inl rfl) rfl rfl ?_
        refine stS rfl rfl rfl (.inl rfl) rfl rfl ?_
        refine stS rfl rfl rfl (.inl rfl) rfl rfl ?_
        refine st rfl rfl rfl (op_pickTO rfl rfl rfl) ?_
        refine AOps_nil ?_
        refine AWp_condT rfl ?_
        refine AWp_seq ?_
        -- region 3 law.go:36
        refine AWp_regL ?_
        refine st rfl rfl rfl (op_moveO rfl rfl) ?_
        refine st rfl rfl rfl (op_assignO rfl rfl) ?_
        refine AOps_nil ?_
        refine AWp_ret ?_
        (try simp only [blockQ, thenQ])
        exact ResQ_1 rfl hcl trivial ⟨rfl, rfl⟩
      · rw [h3]; (try simp only [decide_eq_true_eq, decide_eq_false_iff_not, Bool.not_eq_true', Bool.not_eq_false', Int.not_lt, Int.not_le, Bool.not_true, Bool.not_false, Int.toNat_natCast, bne_iff_ne, beq_iff_eq, beq_eq_false_iff_ne, ne_eq, Decidable.not_not] at h3)
        refine stG rfl rfl rfl rfl rfl rfl (op_fieldAddrO (fo := 1) rfl Tryd.underlying23 rfl rfl Tryd.sizeOf9 (by decide) rfl trivial) ?_
        refine stG rfl rfl rfl rfl rfl rfl (op_load1 rfl Tryd.isAgg9 (by first | exact ldv_own rfl rfl | exact ldv_pp rfl | exact ldv_old (by assumption) rfl | exact ldv_ptr (by assumption) rfl)) ?_
        refine stG rfl rfl rfl rfl rfl rfl (op_lenStr rfl rfl Tryd.underlying9 rfl) ?_
        refine stG rfl rfl rfl rfl rfl rfl (op_gtr rfl rfl rfl) ?_
        refine st rfl rfl rfl (op_pickFO rfl rfl rfl) ?_
        refine AOps_nil ?_
        refine AWp_cond rfl (fun h4 => ?_) (fun h4 => ?_)
        · (try rw [h4]); (try simp only [decide_eq_true_eq, decide_eq_false_iff_not, Bool.not_eq_true', Bool.not_eq_false', Int.not_lt, Int.not_le, Bool.not_true, Bool.not_false, Int.toNat_natCast, bne_iff_ne, beq_iff_eq, beq_eq_false_iff_ne, ne_eq, Decidable.not_not] at h4)
          refine AWp_seq ?_
          -- region 3 law.go:36
          refine AWp_regL ?_
          refine st rfl rfl rfl (op_moveO rfl rfl) ?_
          refine st rfl rfl rfl (op_assignO rfl rfl) ?_
          refine AOps_nil ?_
          refine AWp_ret ?_
          (try simp only [blockQ, thenQ])
          exact ResQ_1 rfl hcl trivial ⟨rfl, rfl⟩
        · (try rw [h4]); (try simp only [decide_eq_true_eq, decide_eq_false_iff_not, Bool.not_eq_true', Bool.not_eq_false', Int.not_lt, Int.not_le, Bool.not_true, Bool.not_false, Int.toNat_natCast, bne_iff_ne, beq_iff_eq, beq_eq_false_iff_ne, ne_eq, Decidable.not_not] at h4)
          refine AWp_skip ?_
          refine AWp_seq ?_
          -- region 4 law.go:38
          refine AWp_regL ?_
          refine st rfl rfl rfl (op_moveO rfl rfl) ?_
          refine st rfl rfl rfl (op_moveO rfl rfl) ?_
          refine st rfl rfl rfl (op_loadK (cs := [_, _, _]) rfl Tryd.isAgg23 Tryd.sizeOf23 (by first | exact ldv_own rfl rfl | exact ldv_pp rfl | exact ldv_old (by assumption) rfl | exact ldv_ptr (by assumption) rfl)) ?_
          refine st rfl rfl rfl (op_moveO rfl rfl) ?_
          refine st rfl rfl rfl (op_buildP (cs := [_, _, _, _, _, _, _, _]) [(0, 1), (1, 1), (2, 3), (5, 1), (6, 1), (7, 1)] rfl Tryd.underlying28 Tryd.zeroValue28 ⟨rfl, Tryd.sizeOf3, ⟨rfl, Tryd.sizeOf4, ⟨rfl, Tryd.sizeOf23, ⟨rfl, Tryd.sizeOf9, ⟨rfl, Tryd.sizeOf25, ⟨rfl, Tryd.sizeOf26, trivial⟩⟩⟩⟩⟩⟩ rfl rfl) ?_
          refine st rfl rfl rfl (op_allocO (cs := [_, _, _, _, _, _, _, _]) 1 rfl rfl Tryd.zeroValue28 rfl) ?_
          refine stN rfl rfl ((by first | exact op_storeO (r := [_, _, _, _, _, _, _, _]) rfl Tryd.sizeOf28 rfl rfl rfl rfl rfl (by decide) | exact op_storeP (r := [_, _, _, _, _, _, _, _]) rfl Tryd.sizeOf28 rfl rfl rfl (by assumption) rfl (by decide))) ?_
          refine AOps_nil ?_
          refine AWp_seq ?_
          -- region 5 law.go:39
          refine AWp_regL ?_
          refine st rfl rfl rfl (op_buildP (cs := [_, _, _, _, _, _, _, _]) [(0, 1), (1, 1), (2, 3), (5, 1), (6, 1), (7, 1)] rfl Tryd.underlying28 Tryd.zeroValue28 ⟨rfl, Tryd.sizeOf3, ⟨rfl, Tryd.sizeOf4, ⟨rfl, Tryd.sizeOf23, ⟨rfl, Tryd.sizeOf9, ⟨rfl, Tryd.sizeOf25, ⟨rfl, Tryd.sizeOf26, trivial⟩⟩⟩⟩⟩⟩ rfl rfl) ?_
          refine st rfl rfl rfl (op_loadK (cs := [_, _, _, _, _, _, _, _]) rfl Tryd.isAgg28 Tryd.sizeOf28 (by first | exact ldv_own rfl rfl | exact ldv_pp rfl | exact ldv_old (by assumption) rfl | exact ldv_ptr (by assumption) rfl)) ?_
          refine st rfl rfl rfl (op_buildSlice [[_, _, _, _, _, _, _, _], [_, _, _, _, _, _, _, _]] rfl Tryd.underlying25 Tryd.sizeOf28 Tryd.zeroValue28 rfl (by decide) (by decide) rfl rfl rfl rfl rfl) ?_
          refine st rfl rfl rfl (op_buildP (cs := [_, _, _, _, _, _, _, _]) [(0, 1), (1, 1), (2, 3), (5, 1), (6, 1), (7, 1)] rfl Tryd.underlying28 Tryd.zeroValue28 ⟨rfl, Tryd.sizeOf3, ⟨rfl, Tryd.sizeOf4, ⟨rfl, Tryd.sizeOf23, ⟨rfl, Tryd.sizeOf9, ⟨rfl, Tryd.sizeOf25, ⟨rfl, Tryd.sizeOf26, trivial⟩⟩⟩⟩⟩⟩ rfl rfl) ?_
          refine st rfl rfl rfl (op_allocO (cs := [_, _, _, _, _, _, _, _]) 2 rfl rfl Tryd.zeroValue28 rfl) ?_
          refine stN rfl rfl ((by first | exact op_storeO (r := [_, _, _, _, _, _, _, _]) rfl Tryd.sizeOf28 rfl rfl rfl rfl rfl (by decide) | exact op_storeP (r := [_, _, _, _, _, _, _, _]) rfl Tryd.sizeOf28 rfl rfl rfl (by assumption) rfl (by decide))) ?_
          refine AOps_nil ?_
          refine AWp_seq ?_
          -- region 6 law.go:40
          refine AWp_regL ?_
          refine st rfl rfl rfl (op_moveO rfl rfl) ?_
          refine st rfl rfl rfl (op_buildP (cs := [_, _, _, _, _, _, _, _, _]) [(0, 1), (1, 8)] rfl Tryd.underlying30 Tryd.zeroValue30 ⟨rfl, Tryd.sizeOf9, ⟨rfl, Tryd.sizeOf28, trivial⟩⟩ rfl rfl) ?_
          refine st rfl rfl rfl (op_moveO rfl rfl) ?_
          refine st rfl rfl rfl (op_loadK (cs := [_, _, _, _, _, _, _, _]) rfl Tryd.isAgg28 Tryd.sizeOf28 (by first | exact ldv_own rfl rfl | exact ldv_pp rfl | exact ldv_old (by assumption) rfl | exact ldv_ptr (by assumption) rfl)) ?_
          refine st rfl rfl rfl (op_buildP (cs := [_, _, _, _, _, _, _, _, _]) [(0, 1), (1, 8)] rfl Tryd.underlying30 Tryd.zeroValue30 ⟨rfl, Tryd.sizeOf9, ⟨rfl, Tryd.sizeOf28, trivial⟩⟩ rfl rfl) ?_
          refine st rfl rfl rfl (op_buildSlice [[_, _, _, _, _, _, _, _, _], [_, _, _, _, _, _, _, _, _]] rfl Tryd.underlying26 Tryd.sizeOf30 Tryd.zeroValue30 rfl (by decide) (by decide) rfl rfl rfl rfl rfl) ?_
          refine st rfl rfl rfl (op_buildP (cs := [_, _, _, _, _, _, _, _]) [(0, 1), (1, 1), (2, 3), (5, 1), (6, 1), (7, 1)] rfl Tryd.underlying28 Tryd.zeroValue28 ⟨rfl, Tryd.sizeOf3, ⟨rfl, Tryd.sizeOf4, ⟨rfl, Tryd.sizeOf23, ⟨rfl, Tryd.sizeOf9, ⟨rfl, Tryd.sizeOf25, ⟨rfl, Tryd.sizeOf26, trivial⟩⟩⟩⟩⟩⟩ rfl rfl) ?_
          refine st rfl rfl rfl (op_allocO (cs := [_, _, _, _, _, _, _, _]) 3 rfl rfl Tryd.zeroValue28 rfl) ?_
          refine stN rfl rfl ((by first | exact op_storeO (r := [_, _, _, _, _, _, _, _]) rfl Tryd.sizeOf28 rfl rfl rfl rfl rfl (by decide) | exact op_storeP (r := [_, _, _, _, _, _, _, _]) rfl Tryd.sizeOf28 rfl rfl rfl (by assumption) rfl (by decide))) ?_
          refine AOps_nil ?_
          refine AWp_seq ?_
          refine AWp_seq ?_
          -- region 7 law.go:41
          refine AWp_regL ?_
          refine st rfl rfl rfl (op_moveO rfl rfl) ?_
          refine AOps_nil ?_
          refine AWp_cond rfl (fun h5 => ?_) (fun h5 => ?_)
          · (try rw [h5]); (try simp only [decide_eq_true_eq, decide_eq_false_iff_not, Bool.not_eq_true', Bool.not_eq_false', Int.not_lt, Int.not_le, Bool.not_true, Bool.not_false, Int.toNat_natCast, bne_iff_ne, beq_iff_eq, beq_eq_false_iff_ne, ne_eq, Decidable.not_not] at h5)
            refine AWp_seq ?_
            -- region 8 law.go:42
            refine AWp_regL ?_
            refine st rfl rfl rfl (op_buildP (cs := [_, _, _, _, _, _, _, _]) [(0, 1), (1, 1), (2, 3), (5, 1), (6, 1), (7, 1)] rfl Tryd.underlying28 Tryd.zeroValue28 ⟨rfl, Tryd.sizeOf3, ⟨rfl, Tryd.sizeOf4, ⟨rfl, Tryd.sizeOf23, ⟨rfl, Tryd.sizeOf9, ⟨rfl, Tryd.sizeOf25, ⟨rfl, Tryd.sizeOf26, trivial⟩⟩⟩⟩⟩⟩ rfl rfl) ?_
            refine st rfl rfl rfl (op_buildSlice [[_, _, _, _, _, _, _, _]] rfl Tryd.underlying25 Tryd.sizeOf28 Tryd.zeroValue28 rfl (by decide) (by decide) rfl rfl rfl rfl rfl) ?_
            refine st rfl rfl rfl (op_fieldAddrO (fo := 6) rfl Tryd.underlying28 rfl rfl Tryd.sizeOf25 (by decide) rfl trivial) ?_
            refine stN rfl rfl ((by first | exact op_storeO (r := [_, _, _, _, _, _, _, _]) rfl Tryd.sizeOf25 rfl rfl rfl rfl rfl (by decide) | exact op_storeP (r := [_, _, _, _, _, _, _, _]) rfl Tryd.sizeOf25 rfl rfl rfl (by assumption) rfl (by decide))) ?_
            refine AOps_nil ?_
            -- region 9 law.go:43
            refine AWp_regL ?_
            refine st rfl rfl rfl (op_moveO rfl rfl) ?_
            refine st rfl rfl rfl (op_fieldAddrO (fo := 0) rfl Tryd.underlying28 rfl rfl Tryd.sizeOf3 (by decide) rfl trivial) ?_
            refine stN rfl rfl ((by first | exact op_storeO (r := [_, _, _, _, _, _, _, _]) rfl Tryd.sizeOf3 rfl rfl rfl rfl rfl (by decide) | exact op_storeP (r := [_, _, _, _, _, _, _, _]) rfl Tryd.sizeOf3 rfl rfl rfl (by assumption) rfl (by decide))) ?_
            refine AOps_nil ?_
            refine AWp_seq ?_
            -- region 10 law.go:45 DRAWN
            refine AWp_drawL #[0, 1, 3, 7, 3, 31, 63, 127, 255, 511, 1023, 511, 4095, 8191, 16383, 32767, 65535, 131071, 65535, 524287, 1048575, 2097151, 4194303] Tryd.mixed (by decide +kernel) (by decide +kernel) ?_
            refine rA rfl rfl rfl rfl (fun _ => op_moveO rfl rfl) ?_
            refine rA rfl rfl rfl rfl (fun _ => op_moveO rfl rfl) ?_
            refine rPG rfl rfl rfl rfl rfl rfl rfl (op_loadK (cs := [_, _, _, _, _, _, _, _]) rfl Tryd.isAgg28 Tryd.sizeOf28 (by first | exact ldv_own rfl rfl | exact ldv_pp rfl | exact ldv_old (by assumption) rfl | exact ldv_ptr (by assumption) rfl)) (trivial) ?_
            refine rPG rfl rfl rfl rfl rfl rfl rfl (op_callF rfl rfl rfl Tryd.func9 rfl rfl ((by first | exact AC1c (vle8 nilL nilM) (mayB_c _ _ (by simp [jb, lb, mb] <;> omega) (by simp [jsize, lsize, msize])) | exact AC1c (vle8 (sl1 (vle8 nilL nilM)) nilM) (mayB_c _ _ (by simp [jb, lb, mb] <;> omega) (by simp [jsize, lsize, msize]))))) (trivial) ?_
            refine rPG rfl rfl rfl rfl rfl rfl rfl (op_loadK (cs := [_, _, _, _, _, _, _, _]) rfl Tryd.isAgg28 Tryd.sizeOf28 (by first | exact ldv_own rfl rfl | exact ldv_pp rfl | exact ldv_old (by assumption) rfl | exact ldv_ptr (by assumption) rfl)) (trivial) ?_
            refine rPG rfl rfl rfl rfl rfl rfl rfl (op_callF rfl rfl rfl Tryd.func10 rfl rfl ((by first | exact AC1c (vle8 nilL nilM) (rmayB_c _ _ (by simp [jb, lb, mb] <;> omega) (by simp [jsize, lsize, msize])) | exact AC1c (vle8 (sl1 (vle8 nilL nilM)) nilM) (rmayB_c _ _ (by simp [jb, lb, mb] <;> omega) (by simp [jsize, lsize, msize]))))) (trivial) ?_
            refine rAG rfl rfl rfl rfl rfl rfl rfl (fun _ => op_beqlS rfl Tryd.underlying4 rfl rfl) ?_
            refine rA rfl rfl rfl rfl (fun _ => op_pickTO rfl rfl rfl) ?_
            refine rA rfl rfl rfl rfl (fun _ => op_moveO rfl rfl) ?_
            refine rPG rfl rfl rfl rfl rfl rfl rfl (op_loadK (cs := [_, _, _, _, _, _, _, _]) rfl Tryd.isAgg28 Tryd.sizeOf28 (by first | exact ldv_own rfl rfl | exact ldv_pp rfl | exact ldv_old (by assumption) rfl | exact ldv_ptr (by assumption) rfl)) (trivial) ?_
            refine rPG rfl rfl rfl rfl rfl rfl rfl (op_callF rfl rfl rfl Tryd.func9 rfl rfl (AC1c (vle8 (sl2 (vle8 nilL nilM) (vle8 nilL nilM)) nilM) (mayB_c _ _ (by simp [jb, lb, mb] <;> omega) (by simp [jsize, lsize, msize])))) (trivial) ?_
            refine rPG rfl rfl rfl rfl rfl rfl rfl (op_loadK (cs := [_, _, _, _, _, _, _, _]) rfl Tryd.isAgg28 Tryd.sizeOf28 (by first | exact ldv_own rfl rfl | exact ldv_pp rfl | exact ldv_old (by assumption) rfl | exact ldv_ptr (by assumption) rfl)) (trivial) ?_
            refine rPG rfl rfl rfl rfl rfl rfl rfl (op_callF rfl rfl rfl Tryd.func10 rfl rfl (AC1c (vle8 (sl2 (vle8 nilL nilM) (vle8 nilL nilM)) nilM) (rmayB_c _ _ (by simp [jb, lb, mb] <;> omega) (by simp [jsize, lsize, msize])))) (trivial) ?_
            refine rAG rfl rfl rfl rfl rfl rfl rfl (fun _ => op_beqlS rfl Tryd.underlying4 rfl rfl) ?_
            refine rA rfl rfl rfl rfl (fun _ => op_pickTO rfl rfl rfl) ?_
            refine rA rfl rfl rfl rfl (fun _ => op_moveO rfl rfl) ?_
            refine rPG rfl rfl rfl rfl rfl rfl rfl (op_loadK (cs := [_, _, _, _, _, _, _, _]) rfl Tryd.isAgg28 Tryd.sizeOf28 (by first | exact ldv_own rfl rfl | exact ldv_pp rfl | exact ldv_old (by assumption) rfl | exact ldv_ptr (by assumption) rfl)) (trivial) ?_
            refine rPG rfl rfl rfl rfl rfl rfl rfl (op_callF rfl rfl rfl Tryd.func9 rfl rfl (AC1c (vle8 nilL (ml2 (vle8 nilL nilM) (vle8 nilL nilM))) (mayB_c _ _ (by simp [jb, lb, mb] <;> omega) (by simp [jsize, lsize, msize])))) (trivial) ?_
            refine rPG rfl rfl rfl rfl rfl rfl rfl (op_loadK (cs := [_, _, _, _, _, _, _, _]) rfl Tryd.isAgg28 Tryd.sizeOf28 (by first | exact ldv_own rfl rfl | exact ldv_pp rfl | exact ldv_old (by assumption) rfl | exact ldv_ptr (by assumption) rfl)) (trivial) ?_
            refine rPG rfl rfl rfl rfl rfl rfl rfl (op_callF rfl rfl rfl Tryd.func10 rfl rfl (AC1c (vle8 nilL (ml2 (vle8 nilL nilM) (vle8 nilL nilM))) (rmayB_c _ _ (by simp [jb, lb, mb] <;> omega) (by simp [jsize, lsize, msize])))) (trivial) ?_
            refine rAG rfl rfl rfl rfl rfl rfl rfl (fun _ => op_beqlS rfl Tryd.underlying4 rfl rfl) ?_
            refine rA rfl rfl rfl rfl (fun _ => op_pickTO rfl rfl rfl) ?_
            refine rA rfl rfl rfl rfl (fun _ => op_assignO rfl rfl) ?_
            refine RP.nil rfl ?_
            refine AWp_ret ?_
            (try simp only [blockQ, thenQ])
            exact ResQ_1 rfl hcl trivial ⟨rfl, rfl⟩
          · (try rw [h5]); (try simp only [decide_eq_true_eq, decide_eq_false_iff_not, Bool.not_eq_true', Bool.not_eq_false', Int.not_lt, Int.not_le, Bool.not_true, Bool.not_false, Int.toNat_natCast, bne_iff_ne, beq_iff_eq, beq_eq_false_iff_ne, ne_eq, Decidable.not_not] at h5)
            refine AWp_skip ?_
            refine AWp_seq ?_
            -- region 10 law.go:45 DRAWN
            refine AWp_drawL #[0, 1, 3, 7, 3, 31, 63, 127, 255, 511, 1023, 511, 4095, 8191, 16383, 32767, 65535, 131071, 65535, 524287, 1048575, 2097151, 4194303] Tryd.mixed (by decide +kernel) (by decide +kernel) ?_
            refine rA rfl rfl rfl rfl (fun _ => op_moveO rfl rfl) ?_
            refine rA rfl rfl rfl rfl (fun _ => op_moveO rfl rfl) ?_
            refine rPG rfl rfl rfl rfl rfl rfl rfl (op_loadK (cs := [_, _, _, _, _, _, _, _]) rfl Tryd.isAgg28 Tryd.sizeOf28 (by first | exact ldv_own rfl rfl | exact ldv_pp rfl | exact ldv_old (by assumption) rfl | exact ldv_ptr (by assumption) rfl)) (trivial) ?_
            refine rPG rfl rfl rfl rfl rfl rfl rfl (op_callF rfl rfl rfl Tryd.func9 rfl rfl ((by first | exact AC1c (vle8 nilL nilM) (mayB_c _ _ (by simp [jb, lb, mb] <;> omega) (by simp [jsize, lsize, msize])) | exact AC1c (vle8 (sl1 (vle8 nilL nilM)) nilM) (mayB_c _ _ (by simp [jb, lb, mb] <;> omega) (by simp [jsize, lsize, msize]))))) (trivial) ?_
            refine rPG rfl rfl rfl rfl rfl rfl rfl (op_loadK (cs := [_, _, _, _, _, _, _, _]) rfl Tryd.isAgg28 Tryd.sizeOf28 (by first | exact ldv_own rfl rfl | exact ldv_pp rfl | exact ldv_old (by assumption) rfl | exact ldv_ptr (by assumption) rfl)) (trivial) ?_
            refine rPG rfl rfl rfl rfl rfl rfl rfl (op_callF rfl rfl rfl Tryd.func10 rfl rfl ((by first | exact AC1c (vle8 nilL nilM) (rmayB_c _ _ (by simp [jb, lb, mb] <;> omega) (by simp [jsize, lsize, msize])) | exact AC1c (vle8 (sl1 (vle8 nilL nilM)) nilM) (rmayB_c _ _ (by simp [jb, lb, mb] <;> omega) (by simp [jsize, lsize, msize]))))) (trivial) ?_
            refine rAG rfl rfl rfl rfl rfl rfl rfl (fun _ => op_beqlS rfl Tryd.underlying4 rfl rfl) ?_
            refine rA rfl rfl rfl rfl (fun _ => op_pickTO rfl rfl rfl) ?_
            refine rA rfl rfl rfl rfl (fun _ => op_moveO rfl rfl) ?_
            refine rPG rfl rfl rfl rfl rfl rfl rfl (op_loadK (cs := [_, _, _, _, _, _, _, _]) rfl Tryd.isAgg28 Tryd.sizeOf28 (by first | exact ldv_own rfl rfl | exact ldv_pp rfl | exact ldv_old (by assumption) rfl | exact ldv_ptr (by assumption) rfl)) (trivial) ?_
            refine rPG rfl rfl rfl rfl rfl rfl rfl (op_callF rfl rfl rfl Tryd.func9 rfl rfl (AC1c (vle8 (sl2 (vle8 nilL nilM) (vle8 nilL nilM)) nilM) (mayB_c _ _ (by simp [jb, lb, mb] <;> omega) (by simp [jsize, lsize, msize])))) (trivial) ?_
            refine rPG rfl rfl rfl rfl rfl rfl rfl (op_loadK (cs := [_, _, _, _, _, _, _, _]) rfl Tryd.isAgg28 Tryd.sizeOf28 (by first | exact ldv_own rfl rfl | exact ldv_pp rfl | exact ldv_old (by assumption) rfl | exact ldv_ptr (by assumption) rfl)) (trivial) ?_
            refine rPG rfl rfl rfl rfl rfl rfl rfl (op_callF rfl rfl rfl Tryd.func10 rfl rfl (AC1c (vle8 (sl2 (vle8 nilL nilM) (vle8 nilL nilM)) nilM) (rmayB_c _ _ (by simp [jb, lb, mb] <;> omega) (by simp [jsize, lsize, msize])))) (trivial) ?_
            refine rAG rfl rfl rfl rfl rfl rfl rfl (fun _ => op_beqlS rfl Tryd.underlying4 rfl rfl) ?_
            refine rA rfl rfl rfl rfl (fun _ => op_pickTO rfl rfl rfl) ?_
            refine rA rfl rfl rfl rfl (fun _ => op_moveO rfl rfl) ?_
            refine rPG rfl rfl rfl rfl rfl rfl rfl (op_loadK (cs := [_, _, _, _, _, _, _, _]) rfl Tryd.isAgg28 Tryd.sizeOf28 (by first | exact ldv_own rfl rfl | exact ldv_pp rfl | exact ldv_old (by assumption) rfl | exact ldv_ptr (by assumption) rfl)) (trivial) ?_
            refine rPG rfl rfl rfl rfl rfl rfl rfl (op_callF rfl rfl rfl Tryd.func9 rfl rfl (AC1c (vle8 nilL (ml2 (vle8 nilL nilM) (vle8 nilL nilM))) (mayB_c _ _ (by simp [jb, lb, mb] <;> omega) (by simp [jsize, lsize, msize])))) (trivial) ?_
            refine rPG rfl rfl rfl rfl rfl rfl rfl (op_loadK (cs := [_, _, _, _, _, _, _, _]) rfl Tryd.isAgg28 Tryd.sizeOf28 (by first | exact ldv_own rfl rfl | exact ldv_pp rfl | exact ldv_old (by assumption) rfl | exact ldv_ptr (by assumption) rfl)) (trivial) ?_
            refine rPG rfl rfl rfl rfl rfl rfl rfl (op_callF rfl rfl rfl Tryd.func10 rfl rfl (AC1c (vle8 nilL (ml2 (vle8 nilL nilM) (vle8 nilL nilM))) (rmayB_c _ _ (by simp [jb, lb, mb] <;> omega) (by simp [jsize, lsize, msize])))) (trivial) ?_
            refine rAG rfl rfl rfl rfl rfl rfl rfl (fun _ => op_beqlS rfl Tryd.underlying4 rfl rfl) ?_
            refine rA rfl rfl rfl rfl (fun _ => op_pickTO rfl rfl rfl) ?_
            refine rA rfl rfl rfl rfl (fun _ => op_assignO rfl rfl) ?_
            refine RP.nil rfl ?_
            refine AWp_ret ?_
            (try simp only [blockQ, thenQ])
            exact ResQ_1 rfl hcl trivial ⟨rfl, rfl⟩

end Lg
