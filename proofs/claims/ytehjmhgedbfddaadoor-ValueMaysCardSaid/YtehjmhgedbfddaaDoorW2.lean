import Derived.Test.YtehjmhgedbfddaaDoorW1
import Derived.Test.YtehjmhgedbfddaaDoorSh1
import Derived.Test.YtehjmhgedbfddaaDoorProg
set_option linter.unusedVariables false
set_option linter.unusedSimpArgs false
set_option linter.unusedSectionVars false
set_option maxRecDepth 20000
namespace Lg
open Go Go.Proofs Go.RowKit
variable [GLay] [U8]


theorem mayFn_c (v : JV) (σ : List AO) (h : ∀ σ, ACalls Tryd.prog 9 [.agg (vcells v)] σ (Ret (.bool (pb (jmay v))) σ)) : ACalls Tryd.prog 32 [.agg (vcells v)] σ (Ret (.bool (!pb (jmay v))) σ) := by
  refine ACalls_body Tryd.func32 rfl Tryd.ntmps32 (res1 Tryd.results32) (Nat.le_of_ble_eq_true rfl) (fun hcl hal => ?_)
  rw [vcells_eq v]
  refine AWp_seq ?_
  -- region 0 value.go:43
  refine AWp_regL ?_
  refine st rfl rfl rfl (op_box0 (cs := [_, _, _, _, _, _, _, _]) rfl rfl rfl) ?_
  refine st rfl rfl rfl (op_assignO rfl rfl) ?_
  refine AOps_nil ?_
  refine AWp_seq ?_
  -- region 1 value.go:43
  refine AWp_regL ?_
  refine st rfl rfl rfl (op_loadK (cs := [_, _, _, _, _, _, _, _]) rfl Tryd.isAgg28 Tryd.sizeOf28 (by first | exact ldv_own rfl rfl | exact ldv_pp rfl | exact ldv_old (by assumption) rfl | exact ldv_ptr (by assumption) rfl)) ?_
  refine st rfl rfl rfl (op_callF rfl rfl rfl Tryd.func9 rfl rfl (vcells_eq v ▸ h _)) ?_
  refine st rfl rfl rfl (op_not rfl rfl) ?_
  refine st rfl rfl rfl (op_assignO rfl rfl) ?_
  refine AOps_nil ?_
  refine AWp_ret ?_
  (try simp only [blockQ, thenQ])
  exact ResQ_1 rfl hcl (by simp [AV.lt, AV.ltL]) ⟨rfl, rfl⟩

theorem may_any (n : Nat) : ∀ (v : JV) (σ : List AO), jsize v ≤ n → jb v → ACalls Tryd.prog 9 [.agg (vcells v)] σ (Ret (.bool (pb (jmay v))) σ) := by
  induction n with
  | zero => intro v σ h; have := jsize_pos v; omega
  | succ n ih =>
  intro v σ hn hjb
  have hvs := jsize_eq v
  have hl := lsize_nn v.l
  have hm := msize_nn v.m
  obtain ⟨hb1, hb2, hb3, hb4, hb5, hb6⟩ := (jb_eq v).1 hjb
  refine ACalls_body Tryd.func9 rfl Tryd.ntmps9 (res1 Tryd.results9) (Nat.le_of_ble_eq_true rfl) (fun hcl hal => ?_)
  rw [vcells_eq v]
  refine AWp_seq ?_
  -- region 0 value.go:34
  refine AWp_regL ?_
  refine st rfl rfl rfl (op_box0 (cs := [_, _, _, _, _, _, _, _]) rfl rfl rfl) ?_
  refine st rfl rfl rfl (op_assignO rfl rfl) ?_
  refine AOps_nil ?_
  refine AWp_seq ?_
  refine AWp_seq ?_
  -- region 1 value.go:35
  refine AWp_regL ?_
  refine st rfl rfl rfl (op_fieldAddrO (fo := 0) rfl Tryd.underlying28 rfl rfl Tryd.sizeOf3 (by decide) rfl trivial) ?_
  refine st rfl rfl rfl (op_load1 rfl Tryd.isAgg3 (by first | exact ldv_own rfl rfl | exact ldv_pp rfl | exact ldv_old (by assumption) rfl | exact ldv_ptr (by assumption) rfl)) ?_
  refine st rfl rfl rfl (op_lss rfl rfl rfl) ?_
  refine st rfl rfl rfl (op_moveO rfl rfl) ?_
  refine AOps_split 8 rfl (fun h1 => ?_) (fun h1 => ?_)
  · rw [h1]; (try simp only [decide_eq_true_eq, decide_eq_false_iff_not, Bool.not_eq_true', Bool.not_eq_false', Int.not_lt, Int.not_le, Bool.not_true, Bool.not_false, Int.toNat_natCast, bne_iff_ne, beq_iff_eq, ne_eq, Decidable.not_not] at h1)
    refine stS rfl rfl rfl (.inl rfl) rfl rfl ?_
    refine stS rfl rfl rfl (.inl rfl) rfl rfl ?_
    refine stS rfl rfl rfl (.inl rfl) rfl rfl ?_
    refine st rfl rfl rfl (op_pickTO rfl rfl rfl) ?_
    refine st rfl rfl rfl (op_moveO rfl rfl) ?_
    refine stS rfl rfl rfl (.inl rfl) rfl rfl ?_
    refine stS rfl rfl rfl (.inl rfl) rfl rfl ?_
    refine stS rfl rfl rfl (.inl rfl) rfl rfl ?_
    refine st rfl rfl rfl (op_pickTO rfl rfl rfl) ?_
    refine st rfl rfl rfl (op_moveO rfl rfl) ?_
    refine stS rfl rfl rfl (.inl rfl) rfl rfl ?_
    refine stS rfl rfl rfl (.inl rfl) rfl rfl ?_
    refine stS rfl rfl rfl (.inl rfl) rfl rfl ?_
    refine stS rfl rfl rfl (.inl rfl) rfl rfl ?_
    refine st rfl rfl rfl (op_pickTO rfl rfl rfl) ?_
    refine st rfl rfl rfl (op_moveO rfl rfl) ?_
    refine stS rfl rfl rfl (.inl rfl) rfl rfl ?_
    refine stS rfl rfl rfl (.inl rfl) rfl rfl ?_
    refine stS rfl rfl rfl (.inl rfl) rfl rfl ?_
    refine stS rfl rfl rfl (.inl rfl) rfl rfl ?_
    refine st rfl rfl rfl (op_pickTO rfl rfl rfl) ?_
    refine AOps_nil ?_
    refine AWp_condT rfl ?_
    refine AWp_seq ?_
    -- region 2 value.go:36
    refine AWp_regL ?_
    refine st rfl rfl rfl (op_assignO rfl rfl) ?_
    refine AOps_nil ?_
    refine AWp_ret ?_
    (try simp only [blockQ, thenQ])
    refine ResQ_1 rfl hcl trivial (Ret_of ?_)
    refine bool_f ?_
    rw [jmay_eq]
    intro hj; obtain ⟨⟨j1, j2, j3, j4, j5⟩, _⟩ := hj
    first | omega | (simp_all [Utf]; done) | (rw [pb_t j4] at *; simp_all)
  · rw [h1]; (try simp only [decide_eq_true_eq, decide_eq_false_iff_not, Bool.not_eq_true', Bool.not_eq_false', Int.not_lt, Int.not_le, Bool.not_true, Bool.not_false, Int.toNat_natCast, bne_iff_ne, beq_iff_eq, ne_eq, Decidable.not_not] at h1)
    refine stG rfl rfl rfl rfl rfl rfl (op_fieldAddrO (fo := 0) rfl Tryd.underlying28 rfl rfl Tryd.sizeOf3 (by decide) rfl trivial) ?_
    refine stG rfl rfl rfl rfl rfl rfl (op_load1 rfl Tryd.isAgg3 (by first | exact ldv_own rfl rfl | exact ldv_pp rfl | exact ldv_old (by assumption) rfl | exact ldv_ptr (by assumption) rfl)) ?_
    refine stG rfl rfl rfl rfl rfl rfl (op_gtr rfl rfl rfl) ?_
    refine st rfl rfl rfl (op_pickFO rfl rfl rfl) ?_
    refine st rfl rfl rfl (op_moveO rfl rfl) ?_
    refine AOps_split 13 rfl (fun h2 => ?_) (fun h2 => ?_)
    · rw [h2]; (try simp only [decide_eq_true_eq, decide_eq_false_iff_not, Bool.not_eq_true', Bool.not_eq_false', Int.not_lt, Int.not_le, Bool.not_true, Bool.not_false, Int.toNat_natCast, bne_iff_ne, beq_iff_eq, ne_eq, Decidable.not_not] at h2)
      refine stS rfl rfl rfl (.inl rfl) rfl rfl ?_
      refine stS rfl rfl rfl (.inl rfl) rfl rfl ?_
      refine stS rfl rfl rfl (.inl rfl) rfl rfl ?_
      refine st rfl rfl rfl (op_pickTO rfl rfl rfl) ?_
      refine st rfl rfl rfl (op_moveO rfl rfl) ?_
      refine stS rfl rfl rfl (.inl rfl) rfl rfl ?_
      refine stS rfl rfl rfl (.inl rfl) rfl rfl ?_
      refine stS rfl rfl rfl (.inl rfl) rfl rfl ?_
      refine stS rfl rfl rfl (.inl rfl) rfl rfl ?_
      refine st rfl rfl rfl (op_pickTO rfl rfl rfl) ?_
      refine st rfl rfl rfl (op_moveO rfl rfl) ?_
      refine stS rfl rfl rfl (.inl rfl) rfl rfl ?_
      refine stS rfl rfl rfl (.inl rfl) rfl rfl ?_
      refine stS rfl rfl rfl (.inl rfl) rfl rfl ?_
      refine stS rfl rfl rfl (.inl rfl) rfl rfl ?_
      refine st rfl rfl rfl (op_pickTO rfl rfl rfl) ?_
      refine AOps_nil ?_
      refine AWp_condT rfl ?_
      refine AWp_seq ?_
      -- region 2 value.go:36
      refine AWp_regL ?_
      refine st rfl rfl rfl (op_assignO rfl rfl) ?_
      refine AOps_nil ?_
      refine AWp_ret ?_
      (try simp only [blockQ, thenQ])
      refine ResQ_1 rfl hcl trivial (Ret_of ?_)
      refine bool_f ?_
      rw [jmay_eq]
      intro hj; obtain ⟨⟨j1, j2, j3, j4, j5⟩, _⟩ := hj
      first | omega | (simp_all [Utf]; done) | (rw [pb_t j4] at *; simp_all)
    · rw [h2]; (try simp only [decide_eq_true_eq, decide_eq_false_iff_not, Bool.not_eq_true', Bool.not_eq_false', Int.not_lt, Int.not_le, Bool.not_true, Bool.not_false, Int.toNat_natCast, bne_iff_ne, beq_iff_eq, ne_eq, Decidable.not_not] at h2)
      refine stG rfl rfl rfl rfl rfl rfl (op_loadK (cs := [_, _, _, _, _, _, _, _]) rfl Tryd.isAgg28 Tryd.sizeOf28 (by first | exact ldv_own rfl rfl | exact ldv_pp rfl | exact ldv_old (by assumption) rfl | exact ldv_ptr (by assumption) rfl)) ?_
      refine stG rfl rfl rfl rfl rfl rfl (op_callF rfl rfl rfl Tryd.func28 rfl rfl (vcells_eq v ▸ bare_c v _)) ?_
      refine stG rfl rfl rfl rfl rfl rfl (op_not rfl rfl) ?_
      refine st rfl rfl rfl (op_pickFO rfl rfl rfl) ?_
      refine st rfl rfl rfl (op_moveO rfl rfl) ?_
      refine AOps_split 18 rfl (fun h3 => ?_) (fun h3 => ?_)
      · rw [h3]; (try simp only [decide_eq_true_eq, decide_eq_false_iff_not, Bool.not_eq_true', Bool.not_eq_false', Int.not_lt, Int.not_le, Bool.not_true, Bool.not_false, Int.toNat_natCast, bne_iff_ne, beq_iff_eq, ne_eq, Decidable.not_not] at h3)
        refine stS rfl rfl rfl (.inl rfl) rfl rfl ?_
        refine stS rfl rfl rfl (.inl rfl) rfl rfl ?_
        refine stS rfl rfl rfl (.inl rfl) rfl rfl ?_
        refine stS rfl rfl rfl (.inl rfl) rfl rfl ?_
        refine st rfl rfl rfl (op_pickTO rfl rfl rfl) ?_
        refine st rfl rfl rfl (op_moveO rfl rfl) ?_
        refine stS rfl rfl rfl (.inl rfl) rfl rfl ?_
        refine stS rfl rfl rfl (.inl rfl) rfl rfl ?_
        refine stS rfl rfl rfl (.inl rfl) rfl rfl ?_
        refine stS rfl rfl rfl (.inl rfl) rfl rfl ?_
        refine st rfl rfl rfl (op_pickTO rfl rfl rfl) ?_
        refine AOps_nil ?_
        refine AWp_condT rfl ?_
        refine AWp_seq ?_
        -- region 2 value.go:36
        refine AWp_regL ?_
        refine st rfl rfl rfl (op_assignO rfl rfl) ?_
        refine AOps_nil ?_
        refine AWp_ret ?_
        (try simp only [blockQ, thenQ])
        refine ResQ_1 rfl hcl trivial (Ret_of ?_)
        refine bool_f ?_
        rw [jmay_eq]
        intro hj; obtain ⟨⟨j1, j2, j3, j4, j5⟩, _⟩ := hj
        first | omega | (simp_all [Utf]; done) | (rw [pb_t j4] at *; simp_all)
      · rw [h3]; (try simp only [decide_eq_true_eq, decide_eq_false_iff_not, Bool.not_eq_true', Bool.not_eq_false', Int.not_lt, Int.not_le, Bool.not_true, Bool.not_false, Int.toNat_natCast, bne_iff_ne, beq_iff_eq, ne_eq, Decidable.not_not] at h3)
        refine stG rfl rfl rfl rfl rfl rfl (op_fieldAddrO (fo := 2) rfl Tryd.underlying28 rfl rfl Tryd.sizeOf23 (by decide) rfl trivial) ?_
        refine stG rfl rfl rfl rfl rfl rfl (op_loadK (cs := [_, _, _]) rfl Tryd.isAgg23 Tryd.sizeOf23 (by first | exact ldv_own rfl rfl | exact ldv_pp rfl | exact ldv_old (by assumption) rfl | exact ldv_ptr (by assumption) rfl)) ?_
        refine stG rfl rfl rfl rfl rfl rfl (op_callF rfl rfl rfl Tryd.func29 rfl rfl (number_c v.n _ (by omega))) ?_
        refine stG rfl rfl rfl rfl rfl rfl (op_not rfl rfl) ?_
        refine st rfl rfl rfl (op_pickFO rfl rfl rfl) ?_
        refine st rfl rfl rfl (op_moveO rfl rfl) ?_
        refine AOps_split 24 rfl (fun h4 => ?_) (fun h4 => ?_)
        · rw [h4]; (try simp only [decide_eq_true_eq, decide_eq_false_iff_not, Bool.not_eq_true', Bool.not_eq_false', Int.not_lt, Int.not_le, Bool.not_true, Bool.not_false, Int.toNat_natCast, bne_iff_ne, beq_iff_eq, ne_eq, Decidable.not_not] at h4)
          refine stS rfl rfl rfl (.inl rfl) rfl rfl ?_
          refine stS rfl rfl rfl (.inl rfl) rfl rfl ?_
          refine stS rfl rfl rfl (.inl rfl) rfl rfl ?_
          refine stS rfl rfl rfl (.inl rfl) rfl rfl ?_
          refine st rfl rfl rfl (op_pickTO rfl rfl rfl) ?_
          refine AOps_nil ?_
          refine AWp_condT rfl ?_
          refine AWp_seq ?_
          -- region 2 value.go:36
          refine AWp_regL ?_
          refine st rfl rfl rfl (op_assignO rfl rfl) ?_
          refine AOps_nil ?_
          refine AWp_ret ?_
          (try simp only [blockQ, thenQ])
          refine ResQ_1 rfl hcl trivial (Ret_of ?_)
          refine bool_f ?_
          rw [jmay_eq]
          intro hj; obtain ⟨⟨j1, j2, j3, j4, j5⟩, _⟩ := hj
          first | omega | (simp_all [Utf]; done) | (rw [pb_t j4] at *; simp_all)
        · rw [h4]; (try simp only [decide_eq_true_eq, decide_eq_false_iff_not, Bool.not_eq_true', Bool.not_eq_false', Int.not_lt, Int.not_le, Bool.not_true, Bool.not_false, Int.toNat_natCast, bne_iff_ne, beq_iff_eq, ne_eq, Decidable.not_not] at h4)
          refine stG rfl rfl rfl rfl rfl rfl (op_fieldAddrO (fo := 5) rfl Tryd.underlying28 rfl rfl Tryd.sizeOf9 (by decide) rfl trivial) ?_
          refine stG rfl rfl rfl rfl rfl rfl (op_load1 rfl Tryd.isAgg9 (by first | exact ldv_own rfl rfl | exact ldv_pp rfl | exact ldv_old (by assumption) rfl | exact ldv_ptr (by assumption) rfl)) ?_
          refine stG rfl rfl rfl rfl rfl rfl (op_callF rfl rfl rfl Tryd.func30 rfl rfl (validString_c v.s _ (by omega))) ?_
          refine stG rfl rfl rfl rfl rfl rfl (op_not rfl rfl) ?_
          refine st rfl rfl rfl (op_pickFO rfl rfl rfl) ?_
          refine AOps_nil ?_
          refine AWp_cond rfl (fun h5 => ?_) (fun h5 => ?_)
          · (try rw [h5]); (try simp only [decide_eq_true_eq, decide_eq_false_iff_not, Bool.not_eq_true', Bool.not_eq_false', Int.not_lt, Int.not_le, Bool.not_true, Bool.not_false, Int.toNat_natCast, bne_iff_ne, beq_iff_eq, ne_eq, Decidable.not_not] at h5)
            refine AWp_seq ?_
            -- region 2 value.go:36
            refine AWp_regL ?_
            refine st rfl rfl rfl (op_assignO rfl rfl) ?_
            refine AOps_nil ?_
            refine AWp_ret ?_
            (try simp only [blockQ, thenQ])
            refine ResQ_1 rfl hcl trivial (Ret_of ?_)
            refine bool_f ?_
            rw [jmay_eq]
            intro hj; obtain ⟨⟨j1, j2, j3, j4, j5⟩, _⟩ := hj
            first | omega | (simp_all [Utf]; done) | (rw [pb_t j4] at *; simp_all)
          · (try rw [h5]); (try simp only [decide_eq_true_eq, decide_eq_false_iff_not, Bool.not_eq_true', Bool.not_eq_false', Int.not_lt, Int.not_le, Bool.not_true, Bool.not_false, Int.toNat_natCast, bne_iff_ne, beq_iff_eq, ne_eq, Decidable.not_not] at h5)
            refine AWp_skip ?_
            refine AWp_seq ?_
            refine AWp_seq ?_
            -- region 3 value.go:38
            refine AWp_regL ?_
            refine st rfl rfl rfl (op_fieldAddrO (fo := 7) rfl Tryd.underlying28 rfl rfl Tryd.sizeOf26 (by decide) rfl trivial) ?_
            refine st rfl rfl rfl (op_load1 rfl Tryd.isAgg26 (by first | exact ldv_own rfl rfl | exact ldv_pp rfl | exact ldv_old (by assumption) rfl | exact ldv_ptr (by assumption) rfl)) ?_
            refine st rfl rfl rfl (op_lenS rfl rfl Tryd.underlying26 rfl rfl trivial) ?_
            refine st rfl rfl rfl (op_moveO rfl rfl) ?_
            refine AOps_nil ?_
            refine AWp_block ?_
            -- loop 0 LIVE 1:box 2:assign 31:load 32:call 33:move
            refine AWp_loop (ι := Nat) (fun i => i ≤ v.m.length ∧ mok v.m i) (fun i => ⟨[], [(1, .ptr (σ.length + 0) 0), (31, .sl false 9 (mcells v.m)), (32, .int .i64 (v.m.length : Int)), (33, .int .i64 (i : Int))]⟩) (fun i => σ ++ [_]) (fun i => v.m.length - i) (0) (⟨Nat.zero_le _, fun j x hj => absurd hj (by omega)⟩) ?_ rfl (fun i hi => ?_)
            · refine ⟨rfl, rfl, rfl, ?_, rfl, trivial⟩
              rw [← mcells_length]; rfl
            obtain ⟨hi1, hi2⟩ := hi
            refine AWp_seq ?_
            -- region 4 value.go:38
            refine AWp_regL ?_
            refine st rfl rfl rfl (op_lss rfl rfl rfl) ?_
            refine AOps_nil ?_
            refine AWp_seq ?_
            refine AWp_cond rfl (fun h6 => ?_) (fun h6 => ?_)
            · (try rw [h6]); (try simp only [decide_eq_true_eq, decide_eq_false_iff_not, Bool.not_eq_true', Bool.not_eq_false', Int.not_lt, Int.not_le, Bool.not_true, Bool.not_false, Int.toNat_natCast, bne_iff_ne, beq_iff_eq, ne_eq, Decidable.not_not] at h6)
              obtain ⟨q, hq⟩ : ∃ q, v.m[i]? = some q := ⟨_, List.getElem?_eq_getElem (show i < v.m.length by omega)⟩
              have hqb := mb_get hb6 hq
              have hms := msize_mem hq
              have hnm : (¬ ((Utf q.1 ∧ ∀ q', i ≠ 0 → v.m[i - 1]? = some q' → blt q'.1 q.1 = true) ∧ jmay q.2)) → ¬ jmay v := fun h hv => h (((jmay_eq v).1 hv).2.1 i q (by omega) hq)
              refine AWp_skip ?_
              refine AWp_seq ?_
              refine AWp_block ?_
              refine AWp_seq ?_
              -- region 5 value.go:38
              refine AWp_regL ?_
              refine st rfl rfl rfl (op_moveO rfl rfl) ?_
              refine st rfl rfl rfl ((by first | exact op_indexAddr rfl Tryd.underlying26 Tryd.sizeOf30 rfl rfl (by omega) (by first | exact lcells_get (by assumption) | exact mcells_get (by assumption) | exact brows_at (by omega) | assumption) | fail)) ?_
              rw [vcells_eq q.2]
              refine st rfl rfl rfl (op_loadK (cs := [_, _, _, _, _, _, _, _, _]) rfl Tryd.isAgg30 Tryd.sizeOf30 (by first | exact ldv_own rfl rfl | exact ldv_pp rfl | exact ldv_old (by assumption) rfl | exact ldv_ptr (by assumption) rfl)) ?_
              refine st rfl rfl rfl (op_allocO (cs := [_, _, _, _, _, _, _, _, _]) 1 rfl rfl Tryd.zeroValue30 rfl) ?_
              refine st rfl rfl rfl (op_assignO rfl rfl) ?_
              refine stN rfl rfl ((by first | exact op_storeO (r := [_, _, _, _, _, _, _, _, _]) rfl Tryd.sizeOf30 rfl rfl rfl rfl rfl (by decide) | exact op_storeP (r := [_, _, _, _, _, _, _, _, _]) rfl Tryd.sizeOf30 rfl rfl rfl (by assumption) rfl (by decide))) ?_
              refine AOps_nil ?_
              refine AWp_seq ?_
              -- region 6 value.go:39 DRAWN
              refine AWp_drawL #[0, 1, 3, 7, 15, 31, 63, 127, 255, 511, 255, 1279, 255, 4351, 15615, 31999, 64767, 131071, 262143, 524287, 1048575, 2097151, 4194303, 8388607, 16777215, 33554431] Tryd.mixed (by decide +kernel) (by decide +kernel) ?_
              refine rA rfl rfl rfl rfl (fun _ => op_fieldAddrO (fo := 0) rfl Tryd.underlying30 rfl rfl Tryd.sizeOf9 (by decide) rfl trivial) ?_
              refine rP rfl rfl rfl rfl (op_load1 rfl Tryd.isAgg9 (by first | exact ldv_own rfl rfl | exact ldv_pp rfl | exact ldv_old (by assumption) rfl | exact ldv_ptr (by assumption) rfl)) (trivial) ?_
              refine rP rfl rfl rfl rfl (op_callF rfl rfl rfl Tryd.func30 rfl rfl (validString_c q.1 _ (by omega))) (trivial) ?_
              refine rA rfl rfl rfl rfl (fun _ => op_not rfl rfl) ?_
              refine rA rfl rfl rfl rfl (fun _ => op_moveO rfl rfl) ?_
              refine RP_split 42 rfl (fun h7 => ?_) (fun h7 => ?_)
              · rw [h7]; (try simp only [decide_eq_true_eq, decide_eq_false_iff_not, Bool.not_eq_true', Bool.not_eq_false', Int.not_lt, Int.not_le, Bool.not_true, Bool.not_false, Int.toNat_natCast, bne_iff_ne, beq_iff_eq, ne_eq, Decidable.not_not] at h7)
                refine rS rfl rfl rfl rfl (.inl rfl) rfl rfl ?_
                refine rS rfl rfl rfl rfl (.inl rfl) rfl rfl ?_
                refine rS rfl rfl rfl rfl (.inl rfl) rfl rfl ?_
                refine rS rfl rfl rfl rfl (.inr rfl) rfl rfl ?_
                refine rS rfl rfl rfl rfl (.inr rfl) rfl rfl ?_
                refine rS rfl rfl rfl rfl (.inr rfl) rfl rfl ?_
                refine rS rfl rfl rfl rfl (.inr rfl) rfl rfl ?_
                refine rS rfl rfl rfl rfl (.inr rfl) rfl rfl ?_
                refine rS rfl rfl rfl rfl (.inr rfl) rfl rfl ?_
                refine rS rfl rfl rfl rfl (.inr rfl) rfl rfl ?_
                refine rS rfl rfl rfl rfl (.inr rfl) rfl rfl ?_
                refine rS rfl rfl rfl rfl (.inr rfl) rfl rfl ?_
                refine rS rfl rfl rfl rfl (.inr rfl) rfl rfl ?_
                refine rS rfl rfl rfl rfl (.inl rfl) rfl rfl ?_
                refine rA rfl rfl rfl rfl (fun _ => op_pickTO rfl rfl rfl) ?_
                refine rA rfl rfl rfl rfl (fun _ => op_moveO rfl rfl) ?_
                refine rS rfl rfl rfl rfl (.inl rfl) rfl rfl ?_
                refine rS rfl rfl rfl rfl (.inl rfl) rfl rfl ?_
                refine rS rfl rfl rfl rfl (.inl rfl) rfl rfl ?_
                refine rS rfl rfl rfl rfl (.inl rfl) rfl rfl ?_
                refine rA rfl rfl rfl rfl (fun _ => op_pickTO rfl rfl rfl) ?_
                refine RP.nil rfl ?_
                refine AWp_condT rfl ?_
                refine AWp_seq ?_
                -- region 7 value.go:40
                refine AWp_regL ?_
                refine st rfl rfl rfl (op_assignO rfl rfl) ?_
                refine AOps_nil ?_
                refine AWp_ret ?_
                (try simp only [blockQ, thenQ])
                refine ResQ_1 rfl hcl trivial (Ret_of ?_)
                refine bool_f (hnm ?_)
                intro h; exact absurd h.1.1 (by simp_all [Utf])
              · rw [h7]; (try simp only [decide_eq_true_eq, decide_eq_false_iff_not, Bool.not_eq_true', Bool.not_eq_false', Int.not_lt, Int.not_le, Bool.not_true, Bool.not_false, Int.toNat_natCast, bne_iff_ne, beq_iff_eq, ne_eq, Decidable.not_not] at h7)
                refine rAG rfl rfl rfl rfl rfl rfl rfl (fun _ => op_moveO rfl rfl) ?_
                refine rAG rfl rfl rfl rfl rfl rfl rfl (fun _ => op_gtr rfl rfl rfl) ?_
                refine rAG rfl rfl rfl rfl rfl rfl rfl (fun _ => op_moveO rfl rfl) ?_
                refine RP_split 45 rfl (fun h8 => ?_) (fun h8 => ?_)
                · rw [h8]; (try simp only [decide_eq_true_eq, decide_eq_false_iff_not, Bool.not_eq_true', Bool.not_eq_false', Int.not_lt, Int.not_le, Bool.not_true, Bool.not_false, Int.toNat_natCast, bne_iff_ne, beq_iff_eq, ne_eq, Decidable.not_not] at h8)
                  obtain ⟨q1, hq1⟩ : ∃ q1, v.m[i - 1]? = some q1 := ⟨_, List.getElem?_eq_getElem (show i - 1 < v.m.length by omega)⟩
                  refine rAG rfl rfl rfl rfl rfl rfl rfl (fun _ => op_fieldAddrO (fo := 0) rfl Tryd.underlying30 rfl rfl Tryd.sizeOf9 (by decide) rfl trivial) ?_
                  refine rPG rfl rfl rfl rfl rfl rfl rfl (op_load1 rfl Tryd.isAgg9 (by first | exact ldv_own rfl rfl | exact ldv_pp rfl | exact ldv_old (by assumption) rfl | exact ldv_ptr (by assumption) rfl)) (trivial) ?_
                  refine rAG rfl rfl rfl rfl rfl rfl rfl (fun _ => op_fieldAddrO (fo := 7) rfl Tryd.underlying28 rfl rfl Tryd.sizeOf26 (by decide) rfl trivial) ?_
                  refine rPG rfl rfl rfl rfl rfl rfl rfl (op_load1 rfl Tryd.isAgg26 (by first | exact ldv_own rfl rfl | exact ldv_pp rfl | exact ldv_old (by assumption) rfl | exact ldv_ptr (by assumption) rfl)) (trivial) ?_
                  refine rAG rfl rfl rfl rfl rfl rfl rfl (fun _ => op_moveO rfl rfl) ?_
                  refine rAG rfl rfl rfl rfl rfl rfl rfl (fun _ => op_sub64 rfl rfl rfl (by omega) (by omega)) ?_
                  refine rAG rfl rfl rfl rfl rfl rfl rfl (fun _ => op_indexAddr rfl Tryd.underlying26 Tryd.sizeOf30 rfl rfl (by omega) (by rw [show ((i : Int) - 1).toNat = i - 1 by omega]; exact mcells_get hq1)) ?_
                  refine rAG rfl rfl rfl rfl rfl rfl rfl (fun _ => op_fieldAddrO (fo := 0) rfl Tryd.underlying30 rfl rfl Tryd.sizeOf9 (by decide) rfl trivial) ?_
                  refine rPG rfl rfl rfl rfl rfl rfl rfl (op_load1 rfl Tryd.isAgg9 (by first | exact ldv_own rfl rfl | exact ldv_pp rfl | exact ldv_old (by assumption) rfl | exact ldv_ptr (by assumption) rfl)) (trivial) ?_
                  refine rAG rfl rfl rfl rfl rfl rfl rfl (fun _ => op_sleq rfl rfl rfl) ?_
                  refine rAG rfl rfl rfl rfl rfl rfl rfl (fun _ => op_pickTO rfl rfl rfl) ?_
                  refine rA rfl rfl rfl rfl (fun _ => op_pickFO rfl rfl rfl) ?_
                  refine rA rfl rfl rfl rfl (fun _ => op_moveO rfl rfl) ?_
                  refine RP_split 58 rfl (fun h9 => ?_) (fun h9 => ?_)
                  · rw [h9]; (try simp only [decide_eq_true_eq, decide_eq_false_iff_not, Bool.not_eq_true', Bool.not_eq_false', Int.not_lt, Int.not_le, Bool.not_true, Bool.not_false, Int.toNat_natCast, bne_iff_ne, beq_iff_eq, ne_eq, Decidable.not_not] at h9)
                    replace h9 := blt_le h9
                    refine rS rfl rfl rfl rfl (.inl rfl) rfl rfl ?_
                    refine rS rfl rfl rfl rfl (.inl rfl) rfl rfl ?_
                    refine rS rfl rfl rfl rfl (.inl rfl) rfl rfl ?_
                    refine rS rfl rfl rfl rfl (.inl rfl) rfl rfl ?_
                    refine rA rfl rfl rfl rfl (fun _ => op_pickTO rfl rfl rfl) ?_
                    refine RP.nil rfl ?_
                    refine AWp_condT rfl ?_
                    refine AWp_seq ?_
                    -- region 7 value.go:40
                    refine AWp_regL ?_
                    refine st rfl rfl rfl (op_assignO rfl rfl) ?_
                    refine AOps_nil ?_
                    refine AWp_ret ?_
                    (try simp only [blockQ, thenQ])
                    refine ResQ_1 rfl hcl trivial (Ret_of ?_)
                    refine bool_f (hnm ?_)
                    intro h; have := h.1.2 q1 (by omega) hq1; rw [this] at h9; cases h9
                  · rw [h9]; (try simp only [decide_eq_true_eq, decide_eq_false_iff_not, Bool.not_eq_true', Bool.not_eq_false', Int.not_lt, Int.not_le, Bool.not_true, Bool.not_false, Int.toNat_natCast, bne_iff_ne, beq_iff_eq, ne_eq, Decidable.not_not] at h9)
                    replace h9 := blt_gt h9
                    refine rAG rfl rfl rfl rfl rfl rfl rfl (fun _ => op_fieldAddrO (fo := 1) rfl Tryd.underlying30 rfl rfl Tryd.sizeOf28 (by decide) rfl trivial) ?_
                    refine rPG rfl rfl rfl rfl rfl rfl rfl (op_loadK (cs := [_, _, _, _, _, _, _, _]) rfl Tryd.isAgg28 Tryd.sizeOf28 (by first | exact ldv_own rfl rfl | exact ldv_pp rfl | exact ldv_old (by assumption) rfl | exact ldv_ptr (by assumption) rfl)) (trivial) ?_
                    refine rPG rfl rfl rfl rfl rfl rfl rfl (op_callF rfl rfl rfl Tryd.func9 rfl rfl (vcells_eq q.2 ▸ ih q.2 _ (by omega) hqb.2)) (trivial) ?_
                    refine rAG rfl rfl rfl rfl rfl rfl rfl (fun _ => op_not rfl rfl) ?_
                    refine rA rfl rfl rfl rfl (fun _ => op_pickFO rfl rfl rfl) ?_
                    refine RP.nil rfl ?_
                    refine AWp_cond rfl (fun h10 => ?_) (fun h10 => ?_)
                    · (try rw [h10]); (try simp only [decide_eq_true_eq, decide_eq_false_iff_not, Bool.not_eq_true', Bool.not_eq_false', Int.not_lt, Int.not_le, Bool.not_true, Bool.not_false, Int.toNat_natCast, bne_iff_ne, beq_iff_eq, ne_eq, Decidable.not_not] at h10)
                      refine AWp_seq ?_
                      -- region 7 value.go:40
                      refine AWp_regL ?_
                      refine st rfl rfl rfl (op_assignO rfl rfl) ?_
                      refine AOps_nil ?_
                      refine AWp_ret ?_
                      (try simp only [blockQ, thenQ])
                      refine ResQ_1 rfl hcl trivial (Ret_of ?_)
                      refine bool_f (hnm ?_)
                      intro h; rw [pb_t h.2] at h10; cases h10
                    · (try rw [h10]); (try simp only [decide_eq_true_eq, decide_eq_false_iff_not, Bool.not_eq_true', Bool.not_eq_false', Int.not_lt, Int.not_le, Bool.not_true, Bool.not_false, Int.toNat_natCast, bne_iff_ne, beq_iff_eq, ne_eq, Decidable.not_not] at h10)
                      refine AWp_skip ?_
                      -- region 8 value.go:38
                      refine AWp_regL ?_
                      refine st rfl rfl rfl (op_add64 rfl rfl rfl (by omega) (by omega)) ?_
                      refine st rfl rfl rfl (op_moveO rfl rfl) ?_
                      refine AOps_nil ?_
                      refine ⟨i + 1, σ.length + 1, ⟨by omega, ?_⟩, by omega, by simp, ⟨rfl, rfl, rfl, rfl, rfl, trivial⟩, closed_own 1 hcl ?_, ?_, take_own 1⟩
                      · rw [mok_succ hq]; exact ⟨hi2, ⟨by simpa [Utf] using h7, fun q2 _ hq2 => by rw [hq1] at hq2; cases hq2; exact h9⟩, (pb_iff _).1 (by simpa using h10)⟩
                      · simp [ownLt, AO.cells, AV.ltL, AV.lt]
                      · simp [ltE, AV.lt]
                · rw [h8]; (try simp only [decide_eq_true_eq, decide_eq_false_iff_not, Bool.not_eq_true', Bool.not_eq_false', Int.not_lt, Int.not_le, Bool.not_true, Bool.not_false, Int.toNat_natCast, bne_iff_ne, beq_iff_eq, ne_eq, Decidable.not_not] at h8)
                  have hi0 : i = 0 := by omega
                  refine rS rfl rfl rfl rfl (.inl rfl) rfl rfl ?_
                  refine rS rfl rfl rfl rfl (.inl rfl) rfl rfl ?_
                  refine rS rfl rfl rfl rfl (.inl rfl) rfl rfl ?_
                  refine rS rfl rfl rfl rfl (.inl rfl) rfl rfl ?_
                  refine rS rfl rfl rfl rfl (.inl rfl) rfl rfl ?_
                  refine rS rfl rfl rfl rfl (.inl rfl) rfl rfl ?_
                  refine rS rfl rfl rfl rfl (.inl rfl) rfl rfl ?_
                  refine rS rfl rfl rfl rfl (.inl rfl) rfl rfl ?_
                  refine rS rfl rfl rfl rfl (.inl rfl) rfl rfl ?_
                  refine rS rfl rfl rfl rfl (.inl rfl) rfl rfl ?_
                  refine rAG rfl rfl rfl rfl rfl rfl rfl (fun _ => op_pickFO rfl rfl rfl) ?_
                  refine rA rfl rfl rfl rfl (fun _ => op_pickFO rfl rfl rfl) ?_
                  refine rA rfl rfl rfl rfl (fun _ => op_moveO rfl rfl) ?_
                  refine rAG rfl rfl rfl rfl rfl rfl rfl (fun _ => op_fieldAddrO (fo := 1) rfl Tryd.underlying30 rfl rfl Tryd.sizeOf28 (by decide) rfl trivial) ?_
                  refine rPG rfl rfl rfl rfl rfl rfl rfl (op_loadK (cs := [_, _, _, _, _, _, _, _]) rfl Tryd.isAgg28 Tryd.sizeOf28 (by first | exact ldv_own rfl rfl | exact ldv_pp rfl | exact ldv_old (by assumption) rfl | exact ldv_ptr (by assumption) rfl)) (trivial) ?_
                  refine rPG rfl rfl rfl rfl rfl rfl rfl (op_callF rfl rfl rfl Tryd.func9 rfl rfl (vcells_eq q.2 ▸ ih q.2 _ (by omega) hqb.2)) (trivial) ?_
                  refine rAG rfl rfl rfl rfl rfl rfl rfl (fun _ => op_not rfl rfl) ?_
                  refine rA rfl rfl rfl rfl (fun _ => op_pickFO rfl rfl rfl) ?_
                  refine RP.nil rfl ?_
                  refine AWp_cond rfl (fun h11 => ?_) (fun h11 => ?_)
                  · (try rw [h11]); (try simp only [decide_eq_true_eq, decide_eq_false_iff_not, Bool.not_eq_true', Bool.not_eq_false', Int.not_lt, Int.not_le, Bool.not_true, Bool.not_false, Int.toNat_natCast, bne_iff_ne, beq_iff_eq, ne_eq, Decidable.not_not] at h11)
                    refine AWp_seq ?_
                    -- region 7 value.go:40
                    refine AWp_regL ?_
                    refine st rfl rfl rfl (op_assignO rfl rfl) ?_
                    refine AOps_nil ?_
                    refine AWp_ret ?_
                    (try simp only [blockQ, thenQ])
                    refine ResQ_1 rfl hcl trivial (Ret_of ?_)
                    refine bool_f (hnm ?_)
                    intro h; rw [pb_t h.2] at h11; cases h11
                  · (try rw [h11]); (try simp only [decide_eq_true_eq, decide_eq_false_iff_not, Bool.not_eq_true', Bool.not_eq_false', Int.not_lt, Int.not_le, Bool.not_true, Bool.not_false, Int.toNat_natCast, bne_iff_ne, beq_iff_eq, ne_eq, Decidable.not_not] at h11)
                    refine AWp_skip ?_
                    -- region 8 value.go:38
                    refine AWp_regL ?_
                    refine st rfl rfl rfl (op_add64 rfl rfl rfl (by omega) (by omega)) ?_
                    refine st rfl rfl rfl (op_moveO rfl rfl) ?_
                    refine AOps_nil ?_
                    refine ⟨i + 1, σ.length + 1, ⟨by omega, ?_⟩, by omega, by simp, ⟨rfl, rfl, rfl, rfl, rfl, trivial⟩, closed_own 1 hcl ?_, ?_, take_own 1⟩
                    · rw [mok_succ hq]; exact ⟨hi2, ⟨by simpa [Utf] using h7, fun q2 h _ => absurd hi0 h⟩, (pb_iff _).1 (by simpa using h11)⟩
                    · simp [ownLt, AO.cells, AV.ltL, AV.lt]
                    · simp [ltE, AV.lt]
            · (try rw [h6]); (try simp only [decide_eq_true_eq, decide_eq_false_iff_not, Bool.not_eq_true', Bool.not_eq_false', Int.not_lt, Int.not_le, Bool.not_true, Bool.not_false, Int.toNat_natCast, bne_iff_ne, beq_iff_eq, ne_eq, Decidable.not_not] at h6)
              have hie : i = v.m.length := by omega
              rw [hie] at hi2
              refine AWp_exit ?_
              refine AWp_seq ?_
              -- region 9 value.go:43
              refine AWp_regL ?_
              refine st rfl rfl rfl (op_fieldAddrO (fo := 6) rfl Tryd.underlying28 rfl rfl Tryd.sizeOf25 (by decide) rfl trivial) ?_
              refine st rfl rfl rfl (op_load1 rfl Tryd.isAgg25 (by first | exact ldv_own rfl rfl | exact ldv_pp rfl | exact ldv_old (by assumption) rfl | exact ldv_ptr (by assumption) rfl)) ?_
              refine st rfl rfl rfl (op_callF rfl rfl rfl Tryd.func31 rfl rfl (containsFunc_c 32 _ Tryd.func32 rfl rfl v.l (fun x => !pb (jmay x)) _ (by omega) (fun i x hx => mayFn_c x _ (fun σ => ih x σ (by have := lsize_mem hx; omega) (lb_get hb5 hx))))) ?_
              refine st rfl rfl rfl (op_not rfl rfl) ?_
              refine st rfl rfl rfl (op_assignO rfl rfl) ?_
              refine AOps_nil ?_
              refine AWp_ret ?_
              (try simp only [blockQ, thenQ])
              refine ResQ_1 rfl hcl trivial (Ret_of ?_)
              refine bool_of ?_
              rw [jmay_eq]
              simp only [Bool.not_eq_true', List.any_eq_false, Bool.not_eq_true]
              constructor
              · intro h; refine ⟨⟨by omega, by omega, by simp_all, by simpa [pb_iff] using h4, by simpa [Utf] using h5⟩, hi2, fun i x hx => ?_⟩
                have := h x (List.mem_of_getElem? hx); exact (pb_iff _).1 (by simpa using this)
              · intro h x hx; obtain ⟨j, hj⟩ := List.getElem?_of_mem hx; simp [pb_t (h.2.2 j x hj)]

end Lg
