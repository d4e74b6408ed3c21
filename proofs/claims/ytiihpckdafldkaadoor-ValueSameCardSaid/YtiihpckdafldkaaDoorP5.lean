/- A part of the proof of ValueSame: Same is of one value with itself, both ways, and on from one to the next, and what follows of size, depth and members; for every input, with no condition: W2 Lu1 Lv4 W5 Lv5 Lg24 Lv6 Lg25 Lg26 Lv7 W11 W10. -/
import Derived.Test.YtiihpckdafldkaaDoorP4
import Derived.Test.YtiihpckdafldkaaDoorP3
import Derived.Test.YtiihpckdafldkaaDoorProg
import Derived.Lib.ValidLaws
set_option linter.unusedVariables false
set_option linter.unusedSimpArgs false
set_option linter.unusedSectionVars false
set_option maxRecDepth 20000
namespace Lg
open Go Go.Proofs Go.RowKit
variable [GLay] [U8]


theorem mayFn_c (v : JV) (σ : List AO) (h : ∀ σ, ACalls Tryd.prog 9 [.agg (vcells v)] σ (Ret (.bool (pb (jmay v))) σ)) : ACalls Tryd.prog 32 [.agg (vcells v)] σ (Ret (.bool (!pb (jmay v))) σ) := by
  refine ACalls_body Tryd.func32 rfl Tryd.ntmps32 (res1 Tryd.results32) (Nat.le_of_ble_eq_true rfl) (fun hcl hal => ?_)
  rw [vcells_eq v]
  refine AWp_seq ?_
  -- region 0 value.go:43
  refine AWp_regL ?_
  refine st rfl rfl rfl (op_box0 (cs := [_, _, _, _, _, _, _, _]) rfl rfl rfl) ?_
  refine st rfl rfl rfl (op_assignO rfl rfl) ?_
  refine AOps_nil ?_
  refine AWp_seq ?_
  -- region 1 value.go:43
  refine AWp_regL ?_
  refine st rfl rfl rfl (op_loadK (cs := [_, _, _, _, _, _, _, _]) rfl Tryd.isAgg28 Tryd.sizeOf28 (by first | exact ldv_own rfl rfl | exact ldv_pp rfl | exact ldv_old (by assumption) rfl | exact ldv_ptr (by assumption) rfl)) ?_
  refine st rfl rfl rfl (op_callF rfl rfl rfl Tryd.func9 rfl rfl (vcells_eq v ▸ h _)) ?_
  refine st rfl rfl rfl (op_not rfl rfl) ?_
  refine st rfl rfl rfl (op_assignO rfl rfl) ?_
  refine AOps_nil ?_
  refine AWp_ret ?_
  (try simp only [blockQ, thenQ])
  exact ResQ_1 rfl hcl (by simp [AV.lt, AV.ltL]) ⟨rfl, rfl⟩

theorem may_any (n : Nat) : ∀ (v : JV) (σ : List AO), jsize v ≤ n → jb v → ACalls Tryd.prog 9 [.agg (vcells v)] σ (Ret (.bool (pb (jmay v))) σ) := by
  induction n with
  | zero => intro v σ h; have := jsize_pos v; omega
  | succ n ih =>
  intro v σ hn hjb
  have hvs := jsize_eq v
  have hl := lsize_nn v.l
  have hm := msize_nn v.m
  obtain ⟨hb1, hb2, hb3, hb4, hb5, hb6⟩ := (jb_eq v).1 hjb
  refine ACalls_body Tryd.func9 rfl Tryd.ntmps9 (res1 Tryd.results9) (Nat.le_of_ble_eq_true rfl) (fun hcl hal => ?_)
  rw [vcells_eq v]
  refine AWp_seq ?_
  -- region 0 value.go:34
  refine AWp_regL ?_
  refine st rfl rfl rfl (op_box0 (cs := [_, _, _, _, _, _, _, _]) rfl rfl rfl) ?_
  refine st rfl rfl rfl (op_assignO rfl rfl) ?_
  refine AOps_nil ?_
  refine AWp_seq ?_
  refine AWp_seq ?_
  -- region 1 value.go:35
  refine AWp_regL ?_
  refine st rfl rfl rfl (op_fieldAddrO (fo := 0) rfl Tryd.underlying28 rfl rfl Tryd.sizeOf3 (by decide) rfl trivial) ?_
  refine st rfl rfl rfl (op_load1 rfl Tryd.isAgg3 (by first | exact ldv_own rfl rfl | exact ldv_pp rfl | exact ldv_old (by assumption) rfl | exact ldv_ptr (by assumption) rfl)) ?_
  refine st rfl rfl rfl (op_lss rfl rfl rfl) ?_
  refine st rfl rfl rfl (op_moveO rfl rfl) ?_
  refine AOps_split 8 rfl (fun h1 => ?_) (fun h1 => ?_)
  · rw [h1]; (try simp only [decide_eq_true_eq, decide_eq_false_iff_not, Bool.not_eq_true', Bool.not_eq_false', Int.not_lt, Int.not_le, Bool.not_true, Bool.not_false, Int.toNat_natCast, bne_iff_ne, beq_iff_eq, ne_eq, Decidable.not_not] at h1)
    refine stS rfl rfl rfl (.inl rfl) rfl rfl ?_
    refine stS rfl rfl rfl (.inl rfl) rfl rfl ?_
    refine stS rfl rfl rfl (.inl rfl) rfl rfl ?_
    refine st rfl rfl rfl (op_pickTO rfl rfl rfl) ?_
    refine st rfl rfl rfl (op_moveO rfl rfl) ?_
    refine stS rfl rfl rfl (.inl rfl) rfl rfl ?_
    refine stS rfl rfl rfl (.inl rfl) rfl rfl ?_
    refine stS rfl rfl rfl (.inl rfl) rfl rfl ?_
    refine st rfl rfl rfl (op_pickTO rfl rfl rfl) ?_
    refine st rfl rfl rfl (op_moveO rfl rfl) ?_
    refine stS rfl rfl rfl (.inl rfl) rfl rfl ?_
    refine stS rfl rfl rfl (.inl rfl) rfl rfl ?_
    refine stS rfl rfl rfl (.inl rfl) rfl rfl ?_
    refine stS rfl rfl rfl (.inl rfl) rfl rfl ?_
    refine st rfl rfl rfl (op_pickTO rfl rfl rfl) ?_
    refine st rfl rfl rfl (op_moveO rfl rfl) ?_
    refine stS rfl rfl rfl (.inl rfl) rfl rfl ?_
    refine stS rfl rfl rfl (.inl rfl) rfl rfl ?_
    refine stS rfl rfl rfl (.inl rfl) rfl rfl ?_
    refine stS rfl rfl rfl (.inl rfl) rfl rfl ?_
    refine st rfl rfl rfl (op_pickTO rfl rfl rfl) ?_
    refine AOps_nil ?_
    refine AWp_condT rfl ?_
    refine AWp_seq ?_
    -- region 2 value.go:36
    refine AWp_regL ?_
    refine st rfl rfl rfl (op_assignO rfl rfl) ?_
    refine AOps_nil ?_
    refine AWp_ret ?_
    (try simp only [blockQ, thenQ])
    refine ResQ_1 rfl hcl trivial (Ret_of ?_)
    refine bool_f ?_
    rw [jmay_eq]
    intro hj; obtain ⟨⟨j1, j2, j3, j4, j5⟩, _⟩ := hj
    first | omega | (simp_all [Utf]; done) | (rw [pb_t j4] at *; simp_all)
  · rw [h1]; (try simp only [decide_eq_true_eq, decide_eq_false_iff_not, Bool.not_eq_true', Bool.not_eq_false', Int.not_lt, Int.not_le, Bool.not_true, Bool.not_false, Int.toNat_natCast, bne_iff_ne, beq_iff_eq, ne_eq, Decidable.not_not] at h1)
    refine stG rfl rfl rfl rfl rfl rfl (op_fieldAddrO (fo := 0) rfl Tryd.underlying28 rfl rfl Tryd.sizeOf3 (by decide) rfl trivial) ?_
    refine stG rfl rfl rfl rfl rfl rfl (op_load1 rfl Tryd.isAgg3 (by first | exact ldv_own rfl rfl | exact ldv_pp rfl | exact ldv_old (by assumption) rfl | exact ldv_ptr (by assumption) rfl)) ?_
    refine stG rfl rfl rfl rfl rfl rfl (op_gtr rfl rfl rfl) ?_
    refine st rfl rfl rfl (op_pickFO rfl rfl rfl) ?_
    refine st rfl rfl rfl (op_moveO rfl rfl) ?_
    refine AOps_split 13 rfl (fun h2 => ?_) (fun h2 => ?_)
    · rw [h2]; (try simp only [decide_eq_true_eq, decide_eq_false_iff_not, Bool.not_eq_true', Bool.not_eq_false', Int.not_lt, Int.not_le, Bool.not_true, Bool.not_false, Int.toNat_natCast, bne_iff_ne, beq_iff_eq, ne_eq, Decidable.not_not] at h2)
      refine stS rfl rfl rfl (.inl rfl) rfl rfl ?_
      refine stS rfl rfl rfl (.inl rfl) rfl rfl ?_
      refine stS rfl rfl rfl (.inl rfl) rfl rfl ?_
      refine st rfl rfl rfl (op_pickTO rfl rfl rfl) ?_
      refine st rfl rfl rfl (op_moveO rfl rfl) ?_
      refine stS rfl rfl rfl (.inl rfl) rfl rfl ?_
      refine stS rfl rfl rfl (.inl rfl) rfl rfl ?_
      refine stS rfl rfl rfl (.inl rfl) rfl rfl ?_
      refine stS rfl rfl rfl (.inl rfl) rfl rfl ?_
      refine st rfl rfl rfl (op_pickTO rfl rfl rfl) ?_
      refine st rfl rfl rfl (op_moveO rfl rfl) ?_
      refine stS rfl rfl rfl (.inl rfl) rfl rfl ?_
      refine stS rfl rfl rfl (.inl rfl) rfl rfl ?_
      refine stS rfl rfl rfl (.inl rfl) rfl rfl ?_
      refine stS rfl rfl rfl (.inl rfl) rfl rfl ?_
      refine st rfl rfl rfl (op_pickTO rfl rfl rfl) ?_
      refine AOps_nil ?_
      refine AWp_condT rfl ?_
      refine AWp_seq ?_
      -- region 2 value.go:36
      refine AWp_regL ?_
      refine st rfl rfl rfl (op_assignO rfl rfl) ?_
      refine AOps_nil ?_
      refine AWp_ret ?_
      (try simp only [blockQ, thenQ])
      refine ResQ_1 rfl hcl trivial (Ret_of ?_)
      refine bool_f ?_
      rw [jmay_eq]
      intro hj; obtain ⟨⟨j1, j2, j3, j4, j5⟩, _⟩ := hj
      first | omega | (simp_all [Utf]; done) | (rw [pb_t j4] at *; simp_all)
    · rw [h2]; (try simp only [decide_eq_true_eq, decide_eq_false_iff_not, Bool.not_eq_true', Bool.not_eq_false', Int.not_lt, Int.not_le, Bool.not_true, Bool.not_false, Int.toNat_natCast, bne_iff_ne, beq_iff_eq, ne_eq, Decidable.not_not] at h2)
      refine stG rfl rfl rfl rfl rfl rfl (op_loadK (cs := [_, _, _, _, _, _, _, _]) rfl Tryd.isAgg28 Tryd.sizeOf28 (by first | exact ldv_own rfl rfl | exact ldv_pp rfl | exact ldv_old (by assumption) rfl | exact ldv_ptr (by assumption) rfl)) ?_
      refine stG rfl rfl rfl rfl rfl rfl (op_callF rfl rfl rfl Tryd.func28 rfl rfl (vcells_eq v ▸ bare_c v _)) ?_
      refine stG rfl rfl rfl rfl rfl rfl (op_not rfl rfl) ?_
      refine st rfl rfl rfl (op_pickFO rfl rfl rfl) ?_
      refine st rfl rfl rfl (op_moveO rfl rfl) ?_
      refine AOps_split 18 rfl (fun h3 => ?_) (fun h3 => ?_)
      · rw [h3]; (try simp only [decide_eq_true_eq, decide_eq_false_iff_not, Bool.not_eq_true', Bool.not_eq_false', Int.not_lt, Int.not_le, Bool.not_true, Bool.not_false, Int.toNat_natCast, bne_iff_ne, beq_iff_eq, ne_eq, Decidable.not_not] at h3)
        refine stS rfl rfl rfl (.inl rfl) rfl rfl ?_
        refine stS rfl rfl rfl (.inl rfl) rfl rfl ?_
        refine stS rfl rfl rfl (.inl rfl) rfl rfl ?_
        refine stS rfl rfl rfl (.inl rfl) rfl rfl ?_
        refine st rfl rfl rfl (op_pickTO rfl rfl rfl) ?_
        refine st rfl rfl rfl (op_moveO rfl rfl) ?_
        refine stS rfl rfl rfl (.inl rfl) rfl rfl ?_
        refine stS rfl rfl rfl (.inl rfl) rfl rfl ?_
        refine stS rfl rfl rfl (.inl rfl) rfl rfl ?_
        refine stS rfl rfl rfl (.inl rfl) rfl rfl ?_
        refine st rfl rfl rfl (op_pickTO rfl rfl rfl) ?_
        refine AOps_nil ?_
        refine AWp_condT rfl ?_
        refine AWp_seq ?_
        -- region 2 value.go:36
        refine AWp_regL ?_
        refine st rfl rfl rfl (op_assignO rfl rfl) ?_
        refine AOps_nil ?_
        refine AWp_ret ?_
        (try simp only [blockQ, thenQ])
        refine ResQ_1 rfl hcl trivial (Ret_of ?_)
        refine bool_f ?_
        rw [jmay_eq]
        intro hj; obtain ⟨⟨j1, j2, j3, j4, j5⟩, _⟩ := hj
        first | omega | (simp_all [Utf]; done) | (rw [pb_t j4] at *; simp_all)
      · rw [h3]; (try simp only [decide_eq_true_eq, decide_eq_false_iff_not, Bool.not_eq_true', Bool.not_eq_false', Int.not_lt, Int.not_le, Bool.not_true, Bool.not_false, Int.toNat_natCast, bne_iff_ne, beq_iff_eq, ne_eq, Decidable.not_not] at h3)
        refine stG rfl rfl rfl rfl rfl rfl (op_fieldAddrO (fo := 2) rfl Tryd.underlying28 rfl rfl Tryd.sizeOf23 (by decide) rfl trivial) ?_
        refine stG rfl rfl rfl rfl rfl rfl (op_loadK (cs := [_, _, _]) rfl Tryd.isAgg23 Tryd.sizeOf23 (by first | exact ldv_own rfl rfl | exact ldv_pp rfl | exact ldv_old (by assumption) rfl | exact ldv_ptr (by assumption) rfl)) ?_
        refine stG rfl rfl rfl rfl rfl rfl (op_callF rfl rfl rfl Tryd.func29 rfl rfl (number_c v.n _ (by omega))) ?_
        refine stG rfl rfl rfl rfl rfl rfl (op_not rfl rfl) ?_
        refine st rfl rfl rfl (op_pickFO rfl rfl rfl) ?_
        refine st rfl rfl rfl (op_moveO rfl rfl) ?_
        refine AOps_split 24 rfl (fun h4 => ?_) (fun h4 => ?_)
        · rw [h4]; (try simp only [decide_eq_true_eq, decide_eq_false_iff_not, Bool.not_eq_true', Bool.not_eq_false', Int.not_lt, Int.not_le, Bool.not_true, Bool.not_false, Int.toNat_natCast, bne_iff_ne, beq_iff_eq, ne_eq, Decidable.not_not] at h4)
          refine stS rfl rfl rfl (.inl rfl) rfl rfl ?_
          refine stS rfl rfl rfl (.inl rfl) rfl rfl ?_
          refine stS rfl rfl rfl (.inl rfl) rfl rfl ?_
          refine stS rfl rfl rfl (.inl rfl) rfl rfl ?_
          refine st rfl rfl rfl (op_pickTO rfl rfl rfl) ?_
          refine AOps_nil ?_
          refine AWp_condT rfl ?_
          refine AWp_seq ?_
          -- region 2 value.go:36
          refine AWp_regL ?_
          refine st rfl rfl rfl (op_assignO rfl rfl) ?_
          refine AOps_nil ?_
          refine AWp_ret ?_
          (try simp only [blockQ, thenQ])
          refine ResQ_1 rfl hcl trivial (Ret_of ?_)
          refine bool_f ?_
          rw [jmay_eq]
          intro hj; obtain ⟨⟨j1, j2, j3, j4, j5⟩, _⟩ := hj
          first | omega | (simp_all [Utf]; done) | (rw [pb_t j4] at *; simp_all)
        · rw [h4]; (try simp only [decide_eq_true_eq, decide_eq_false_iff_not, Bool.not_eq_true', Bool.not_eq_false', Int.not_lt, Int.not_le, Bool.not_true, Bool.not_false, Int.toNat_natCast, bne_iff_ne, beq_iff_eq, ne_eq, Decidable.not_not] at h4)
          refine stG rfl rfl rfl rfl rfl rfl (op_fieldAddrO (fo := 5) rfl Tryd.underlying28 rfl rfl Tryd.sizeOf9 (by decide) rfl trivial) ?_
          refine stG rfl rfl rfl rfl rfl rfl (op_load1 rfl Tryd.isAgg9 (by first | exact ldv_own rfl rfl | exact ldv_pp rfl | exact ldv_old (by assumption) rfl | exact ldv_ptr (by assumption) rfl)) ?_
          refine stG rfl rfl rfl rfl rfl rfl (op_callF rfl rfl rfl Tryd.func30 rfl rfl (validString_c v.s _ (by omega))) ?_
          refine stG rfl rfl rfl rfl rfl rfl (op_not rfl rfl) ?_
          refine st rfl rfl rfl (op_pickFO rfl rfl rfl) ?_
          refine AOps_nil ?_
          refine AWp_cond rfl (fun h5 => ?_) (fun h5 => ?_)
          · (try rw [h5]); (try simp only [decide_eq_true_eq, decide_eq_false_iff_not, Bool.not_eq_true', Bool.not_eq_false', Int.not_lt, Int.not_le, Bool.not_true, Bool.not_false, Int.toNat_natCast, bne_iff_ne, beq_iff_eq, ne_eq, Decidable.not_not] at h5)
            refine AWp_seq ?_
            -- region 2 value.go:36
            refine AWp_regL ?_
            refine st rfl rfl rfl (op_assignO rfl rfl) ?_
            refine AOps_nil ?_
            refine AWp_ret ?_
            (try simp only [blockQ, thenQ])
            refine ResQ_1 rfl hcl trivial (Ret_of ?_)
            refine bool_f ?_
            rw [jmay_eq]
            intro hj; obtain ⟨⟨j1, j2, j3, j4, j5⟩, _⟩ := hj
            first | omega | (simp_all [Utf]; done) | (rw [pb_t j4] at *; simp_all)
          · (try rw [h5]); (try simp only [decide_eq_true_eq, decide_eq_false_iff_not, Bool.not_eq_true', Bool.not_eq_false', Int.not_lt, Int.not_le, Bool.not_true, Bool.not_false, Int.toNat_natCast, bne_iff_ne, beq_iff_eq, ne_eq, Decidable.not_not] at h5)
            refine AWp_skip ?_
            refine AWp_seq ?_
            refine AWp_seq ?_
            -- region 3 value.go:38
            refine AWp_regL ?_
            refine st rfl rfl rfl (op_fieldAddrO (fo := 7) rfl Tryd.underlying28 rfl rfl Tryd.sizeOf26 (by decide) rfl trivial) ?_
            refine st rfl rfl rfl (op_load1 rfl Tryd.isAgg26 (by first | exact ldv_own rfl rfl | exact ldv_pp rfl | exact ldv_old (by assumption) rfl | exact ldv_ptr (by assumption) rfl)) ?_
            refine st rfl rfl rfl (op_lenS rfl rfl Tryd.underlying26 rfl rfl trivial) ?_
            refine st rfl rfl rfl (op_moveO rfl rfl) ?_
            refine AOps_nil ?_
            refine AWp_block ?_
            -- loop 0 LIVE 1:box 2:assign 31:load 32:call 33:move
            refine AWp_loop (ι := Nat) (fun i => i ≤ v.m.length ∧ mok v.m i) (fun i => ⟨[], [(1, .ptr (σ.length + 0) 0), (31, .sl false 9 (mcells v.m)), (32, .int .i64 (v.m.length : Int)), (33, .int .i64 (i : Int))]⟩) (fun i => σ ++ [_]) (fun i => v.m.length - i) (0) (⟨Nat.zero_le _, fun j x hj => absurd hj (by omega)⟩) ?_ rfl (fun i hi => ?_)
            · refine ⟨rfl, rfl, rfl, ?_, rfl, trivial⟩
              rw [← mcells_length]; rfl
            obtain ⟨hi1, hi2⟩ := hi
            refine AWp_seq ?_
            -- region 4 value.go:38
            refine AWp_regL ?_
            refine st rfl rfl rfl (op_lss rfl rfl rfl) ?_
            refine AOps_nil ?_
            refine AWp_seq ?_
            refine AWp_cond rfl (fun h6 => ?_) (fun h6 => ?_)
            · (try rw [h6]); (try simp only [decide_eq_true_eq, decide_eq_false_iff_not, Bool.not_eq_true', Bool.not_eq_false', Int.not_lt, Int.not_le, Bool.not_true, Bool.not_false, Int.toNat_natCast, bne_iff_ne, beq_iff_eq, ne_eq, Decidable.not_not] at h6)
              obtain ⟨q, hq⟩ : ∃ q, v.m[i]? = some q := ⟨_, List.getElem?_eq_getElem (show i < v.m.length by omega)⟩
              have hqb := mb_get hb6 hq
              have hms := msize_mem hq
              have hnm : (¬ ((Utf q.1 ∧ ∀ q', i ≠ 0 → v.m[i - 1]? = some q' → blt q'.1 q.1 = true) ∧ jmay q.2)) → ¬ jmay v := fun h hv => h (((jmay_eq v).1 hv).2.1 i q (by omega) hq)
              refine AWp_skip ?_
              refine AWp_seq ?_
              refine AWp_block ?_
              refine AWp_seq ?_
              -- region 5 value.go:38
              refine AWp_regL ?_
              refine st rfl rfl rfl (op_moveO rfl rfl) ?_
              refine st rfl rfl rfl ((by first | exact op_indexAddr rfl Tryd.underlying26 Tryd.sizeOf30 rfl rfl (by omega) (by first | exact lcells_get (by assumption) | exact mcells_get (by assumption) | exact brows_at (by omega) | assumption) | fail)) ?_
              rw [vcells_eq q.2]
              refine st rfl rfl rfl (op_loadK (cs := [_, _, _, _, _, _, _, _, _]) rfl Tryd.isAgg30 Tryd.sizeOf30 (by first | exact ldv_own rfl rfl | exact ldv_pp rfl | exact ldv_old (by assumption) rfl | exact ldv_ptr (by assumption) rfl)) ?_
              refine st rfl rfl rfl (op_allocO (cs := [_, _, _, _, _, _, _, _, _]) 1 rfl rfl Tryd.zeroValue30 rfl) ?_
              refine st rfl rfl rfl (op_assignO rfl rfl) ?_
              refine stN rfl rfl ((by first | exact op_storeO (r := [_, _, _, _, _, _, _, _, _]) rfl Tryd.sizeOf30 rfl rfl rfl rfl rfl (by decide) | exact op_storeP (r := [_, _, _, _, _, _, _, _, _]) rfl Tryd.sizeOf30 rfl rfl rfl (by assumption) rfl (by decide))) ?_
              refine AOps_nil ?_
              refine AWp_seq ?_
              -- region 6 value.go:39 DRAWN
              refine AWp_drawL #[0, 1, 3, 7, 15, 31, 63, 127, 255, 511, 255, 1279, 255, 4351, 15615, 31999, 64767, 131071, 262143, 524287, 1048575, 2097151, 4194303, 8388607, 16777215, 33554431] Tryd.mixed (by decide +kernel) (by decide +kernel) ?_
              refine rA rfl rfl rfl rfl (fun _ => op_fieldAddrO (fo := 0) rfl Tryd.underlying30 rfl rfl Tryd.sizeOf9 (by decide) rfl trivial) ?_
              refine rP rfl rfl rfl rfl (op_load1 rfl Tryd.isAgg9 (by first | exact ldv_own rfl rfl | exact ldv_pp rfl | exact ldv_old (by assumption) rfl | exact ldv_ptr (by assumption) rfl)) (trivial) ?_
              refine rP rfl rfl rfl rfl (op_callF rfl rfl rfl Tryd.func30 rfl rfl (validString_c q.1 _ (by omega))) (trivial) ?_
              refine rA rfl rfl rfl rfl (fun _ => op_not rfl rfl) ?_
              refine rA rfl rfl rfl rfl (fun _ => op_moveO rfl rfl) ?_
              refine RP_split 42 rfl (fun h7 => ?_) (fun h7 => ?_)
              · rw [h7]; (try simp only [decide_eq_true_eq, decide_eq_false_iff_not, Bool.not_eq_true', Bool.not_eq_false', Int.not_lt, Int.not_le, Bool.not_true, Bool.not_false, Int.toNat_natCast, bne_iff_ne, beq_iff_eq, ne_eq, Decidable.not_not] at h7)
                refine rS rfl rfl rfl rfl (.inl rfl) rfl rfl ?_
                refine rS rfl rfl rfl rfl (.inl rfl) rfl rfl ?_
                refine rS rfl rfl rfl rfl (.inl rfl) rfl rfl ?_
                refine rS rfl rfl rfl rfl (.inr rfl) rfl rfl ?_
                refine rS rfl rfl rfl rfl (.inr rfl) rfl rfl ?_
                refine rS rfl rfl rfl rfl (.inr rfl) rfl rfl ?_
                refine rS rfl rfl rfl rfl (.inr rfl) rfl rfl ?_
                refine rS rfl rfl rfl rfl (.inr rfl) rfl rfl ?_
                refine rS rfl rfl rfl rfl (.inr rfl) rfl rfl ?_
                refine rS rfl rfl rfl rfl (.inr rfl) rfl rfl ?_
                refine rS rfl rfl rfl rfl (.inr rfl) rfl rfl ?_
                refine rS rfl rfl rfl rfl (.inr rfl) rfl rfl ?_
                refine rS rfl rfl rfl rfl (.inr rfl) rfl rfl ?_
                refine rS rfl rfl rfl rfl (.inl rfl) rfl rfl ?_
                refine rA rfl rfl rfl rfl (fun _ => op_pickTO rfl rfl rfl) ?_
                refine rA rfl rfl rfl rfl (fun _ => op_moveO rfl rfl) ?_
                refine rS rfl rfl rfl rfl (.inl rfl) rfl rfl ?_
                refine rS rfl rfl rfl rfl (.inl rfl) rfl rfl ?_
                refine rS rfl rfl rfl rfl (.inl rfl) rfl rfl ?_
                refine rS rfl rfl rfl rfl (.inl rfl) rfl rfl ?_
                refine rA rfl rfl rfl rfl (fun _ => op_pickTO rfl rfl rfl) ?_
                refine RP.nil rfl ?_
                refine AWp_condT rfl ?_
                refine AWp_seq ?_
                -- region 7 value.go:40
                refine AWp_regL ?_
                refine st rfl rfl rfl (op_assignO rfl rfl) ?_
                refine AOps_nil ?_
                refine AWp_ret ?_
                (try simp only [blockQ, thenQ])
                refine ResQ_1 rfl hcl trivial (Ret_of ?_)
                refine bool_f (hnm ?_)
                intro h; exact absurd h.1.1 (by simp_all [Utf])
              · rw [h7]; (try simp only [decide_eq_true_eq, decide_eq_false_iff_not, Bool.not_eq_true', Bool.not_eq_false', Int.not_lt, Int.not_le, Bool.not_true, Bool.not_false, Int.toNat_natCast, bne_iff_ne, beq_iff_eq, ne_eq, Decidable.not_not] at h7)
                refine rAG rfl rfl rfl rfl rfl rfl rfl (fun _ => op_moveO rfl rfl) ?_
                refine rAG rfl rfl rfl rfl rfl rfl rfl (fun _ => op_gtr rfl rfl rfl) ?_
                refine rAG rfl rfl rfl rfl rfl rfl rfl (fun _ => op_moveO rfl rfl) ?_
                refine RP_split 45 rfl (fun h8 => ?_) (fun h8 => ?_)
                · rw [h8]; (try simp only [decide_eq_true_eq, decide_eq_false_iff_not, Bool.not_eq_true', Bool.not_eq_false', Int.not_lt, Int.not_le, Bool.not_true, Bool.not_false, Int.toNat_natCast, bne_iff_ne, beq_iff_eq, ne_eq, Decidable.not_not] at h8)
                  obtain ⟨q1, hq1⟩ : ∃ q1, v.m[i - 1]? = some q1 := ⟨_, List.getElem?_eq_getElem (show i - 1 < v.m.length by omega)⟩
                  refine rAG rfl rfl rfl rfl rfl rfl rfl (fun _ => op_fieldAddrO (fo := 0) rfl Tryd.underlying30 rfl rfl Tryd.sizeOf9 (by decide) rfl trivial) ?_
                  refine rPG rfl rfl rfl rfl rfl rfl rfl (op_load1 rfl Tryd.isAgg9 (by first | exact ldv_own rfl rfl | exact ldv_pp rfl | exact ldv_old (by assumption) rfl | exact ldv_ptr (by assumption) rfl)) (trivial) ?_
                  refine rAG rfl rfl rfl rfl rfl rfl rfl (fun _ => op_fieldAddrO (fo := 7) rfl Tryd.underlying28 rfl rfl Tryd.sizeOf26 (by decide) rfl trivial) ?_
                  refine rPG rfl rfl rfl rfl rfl rfl rfl (op_load1 rfl Tryd.isAgg26 (by first | exact ldv_own rfl rfl | exact ldv_pp rfl | exact ldv_old (by assumption) rfl | exact ldv_ptr (by assumption) rfl)) (trivial) ?_
                  refine rAG rfl rfl rfl rfl rfl rfl rfl (fun _ => op_moveO rfl rfl) ?_
                  refine rAG rfl rfl rfl rfl rfl rfl rfl (fun _ => op_sub64 rfl rfl rfl (by omega) (by omega)) ?_
                  refine rAG rfl rfl rfl rfl rfl rfl rfl (fun _ => op_indexAddr rfl Tryd.underlying26 Tryd.sizeOf30 rfl rfl (by omega) (by rw [show ((i : Int) - 1).toNat = i - 1 by omega]; exact mcells_get hq1)) ?_
                  refine rAG rfl rfl rfl rfl rfl rfl rfl (fun _ => op_fieldAddrO (fo := 0) rfl Tryd.underlying30 rfl rfl Tryd.sizeOf9 (by decide) rfl trivial) ?_
                  refine rPG rfl rfl rfl rfl rfl rfl rfl (op_load1 rfl Tryd.isAgg9 (by first | exact ldv_own rfl rfl | exact ldv_pp rfl | exact ldv_old (by assumption) rfl | exact ldv_ptr (by assumption) rfl)) (trivial) ?_
                  refine rAG rfl rfl rfl rfl rfl rfl rfl (fun _ => op_sleq rfl rfl rfl) ?_
                  refine rAG rfl rfl rfl rfl rfl rfl rfl (fun _ => op_pickTO rfl rfl rfl) ?_
                  refine rA rfl rfl rfl rfl (fun _ => op_pickFO rfl rfl rfl) ?_
                  refine rA rfl rfl rfl rfl (fun _ => op_moveO rfl rfl) ?_
                  refine RP_split 58 rfl (fun h9 => ?_) (fun h9 => ?_)
                  · rw [h9]; (try simp only [decide_eq_true_eq, decide_eq_false_iff_not, Bool.not_eq_true', Bool.not_eq_false', Int.not_lt, Int.not_le, Bool.not_true, Bool.not_false, Int.toNat_natCast, bne_iff_ne, beq_iff_eq, ne_eq, Decidable.not_not] at h9)
                    replace h9 := blt_le h9
                    refine rS rfl rfl rfl rfl (.inl rfl) rfl rfl ?_
                    refine rS rfl rfl rfl rfl (.inl rfl) rfl rfl ?_
                    refine rS rfl rfl rfl rfl (.inl rfl) rfl rfl ?_
                    refine rS rfl rfl rfl rfl (.inl rfl) rfl rfl ?_
                    refine rA rfl rfl rfl rfl (fun _ => op_pickTO rfl rfl rfl) ?_
                    refine RP.nil rfl ?_
                    refine AWp_condT rfl ?_
                    refine AWp_seq ?_
                    -- region 7 value.go:40
                    refine AWp_regL ?_
                    refine st rfl rfl rfl (op_assignO rfl rfl) ?_
                    refine AOps_nil ?_
                    refine AWp_ret ?_
                    (try simp only [blockQ, thenQ])
                    refine ResQ_1 rfl hcl trivial (Ret_of ?_)
                    refine bool_f (hnm ?_)
                    intro h; have := h.1.2 q1 (by omega) hq1; rw [this] at h9; cases h9
                  · rw [h9]; (try simp only [decide_eq_true_eq, decide_eq_false_iff_not, Bool.not_eq_true', Bool.not_eq_false', Int.not_lt, Int.not_le, Bool.not_true, Bool.not_false, Int.toNat_natCast, bne_iff_ne, beq_iff_eq, ne_eq, Decidable.not_not] at h9)
                    replace h9 := blt_gt h9
                    refine rAG rfl rfl rfl rfl rfl rfl rfl (fun _ => op_fieldAddrO (fo := 1) rfl Tryd.underlying30 rfl rfl Tryd.sizeOf28 (by decide) rfl trivial) ?_
                    refine rPG rfl rfl rfl rfl rfl rfl rfl (op_loadK (cs := [_, _, _, _, _, _, _, _]) rfl Tryd.isAgg28 Tryd.sizeOf28 (by first | exact ldv_own rfl rfl | exact ldv_pp rfl | exact ldv_old (by assumption) rfl | exact ldv_ptr (by assumption) rfl)) (trivial) ?_
                    refine rPG rfl rfl rfl rfl rfl rfl rfl (op_callF rfl rfl rfl Tryd.func9 rfl rfl (vcells_eq q.2 ▸ ih q.2 _ (by omega) hqb.2)) (trivial) ?_
                    refine rAG rfl rfl rfl rfl rfl rfl rfl (fun _ => op_not rfl rfl) ?_
                    refine rA rfl rfl rfl rfl (fun _ => op_pickFO rfl rfl rfl) ?_
                    refine RP.nil rfl ?_
                    refine AWp_cond rfl (fun h10 => ?_) (fun h10 => ?_)
                    · (try rw [h10]); (try simp only [decide_eq_true_eq, decide_eq_false_iff_not, Bool.not_eq_true', Bool.not_eq_false', Int.not_lt, Int.not_le, Bool.not_true, Bool.not_false, Int.toNat_natCast, bne_iff_ne, beq_iff_eq, ne_eq, Decidable.not_not] at h10)
                      refine AWp_seq ?_
                      -- region 7 value.go:40
                      refine AWp_regL ?_
                      refine st rfl rfl rfl (op_assignO rfl rfl) ?_
                      refine AOps_nil ?_
                      refine AWp_ret ?_
                      (try simp only [blockQ, thenQ])
                      refine ResQ_1 rfl hcl trivial (Ret_of ?_)
                      refine bool_f (hnm ?_)
                      intro h; rw [pb_t h.2] at h10; cases h10
                    · (try rw [h10]); (try simp only [decide_eq_true_eq, decide_eq_false_iff_not, Bool.not_eq_true', Bool.not_eq_false', Int.not_lt, Int.not_le, Bool.not_true, Bool.not_false, Int.toNat_natCast, bne_iff_ne, beq_iff_eq, ne_eq, Decidable.not_not] at h10)
                      refine AWp_skip ?_
                      -- region 8 value.go:38
                      refine AWp_regL ?_
                      refine st rfl rfl rfl (op_add64 rfl rfl rfl (by omega) (by omega)) ?_
                      refine st rfl rfl rfl (op_moveO rfl rfl) ?_
                      refine AOps_nil ?_
                      refine ⟨i + 1, σ.length + 1, ⟨by omega, ?_⟩, by omega, by simp, ⟨rfl, rfl, rfl, rfl, rfl, trivial⟩, closed_own 1 hcl ?_, ?_, take_own 1⟩
                      · rw [mok_succ hq]; exact ⟨hi2, ⟨by simpa [Utf] using h7, fun q2 _ hq2 => by rw [hq1] at hq2; cases hq2; exact h9⟩, (pb_iff _).1 (by simpa using h10)⟩
                      · simp [ownLt, AO.cells, AV.ltL, AV.lt]
                      · simp [ltE, AV.lt]
                · rw [h8]; (try simp only [decide_eq_true_eq, decide_eq_false_iff_not, Bool.not_eq_true', Bool.not_eq_false', Int.not_lt, Int.not_le, Bool.not_true, Bool.not_false, Int.toNat_natCast, bne_iff_ne, beq_iff_eq, ne_eq, Decidable.not_not] at h8)
                  have hi0 : i = 0 := by omega
                  refine rS rfl rfl rfl rfl (.inl rfl) rfl rfl ?_
                  refine rS rfl rfl rfl rfl (.inl rfl) rfl rfl ?_
                  refine rS rfl rfl rfl rfl (.inl rfl) rfl rfl ?_
                  refine rS rfl rfl rfl rfl (.inl rfl) rfl rfl ?_
                  refine rS rfl rfl rfl rfl (.inl rfl) rfl rfl ?_
                  refine rS rfl rfl rfl rfl (.inl rfl) rfl rfl ?_
                  refine rS rfl rfl rfl rfl (.inl rfl) rfl rfl ?_
                  refine rS rfl rfl rfl rfl (.inl rfl) rfl rfl ?_
                  refine rS rfl rfl rfl rfl (.inl rfl) rfl rfl ?_
                  refine rS rfl rfl rfl rfl (.inl rfl) rfl rfl ?_
                  refine rAG rfl rfl rfl rfl rfl rfl rfl (fun _ => op_pickFO rfl rfl rfl) ?_
                  refine rA rfl rfl rfl rfl (fun _ => op_pickFO rfl rfl rfl) ?_
                  refine rA rfl rfl rfl rfl (fun _ => op_moveO rfl rfl) ?_
                  refine rAG rfl rfl rfl rfl rfl rfl rfl (fun _ => op_fieldAddrO (fo := 1) rfl Tryd.underlying30 rfl rfl Tryd.sizeOf28 (by decide) rfl trivial) ?_
                  refine rPG rfl rfl rfl rfl rfl rfl rfl (op_loadK (cs := [_, _, _, _, _, _, _, _]) rfl Tryd.isAgg28 Tryd.sizeOf28 (by first | exact ldv_own rfl rfl | exact ldv_pp rfl | exact ldv_old (by assumption) rfl | exact ldv_ptr (by assumption) rfl)) (trivial) ?_
                  refine rPG rfl rfl rfl rfl rfl rfl rfl (op_callF rfl rfl rfl Tryd.func9 rfl rfl (vcells_eq q.2 ▸ ih q.2 _ (by omega) hqb.2)) (trivial) ?_
                  refine rAG rfl rfl rfl rfl rfl rfl rfl (fun _ => op_not rfl rfl) ?_
                  refine rA rfl rfl rfl rfl (fun _ => op_pickFO rfl rfl rfl) ?_
                  refine RP.nil rfl ?_
                  refine AWp_cond rfl (fun h11 => ?_) (fun h11 => ?_)
                  · (try rw [h11]); (try simp only [decide_eq_true_eq, decide_eq_false_iff_not, Bool.not_eq_true', Bool.not_eq_false', Int.not_lt, Int.not_le, Bool.not_true, Bool.not_false, Int.toNat_natCast, bne_iff_ne, beq_iff_eq, ne_eq, Decidable.not_not] at h11)
                    refine AWp_seq ?_
                    -- region 7 value.go:40
                    refine AWp_regL ?_
                    refine st rfl rfl rfl (op_assignO rfl rfl) ?_
                    refine AOps_nil ?_
                    refine AWp_ret ?_
                    (try simp only [blockQ, thenQ])
                    refine ResQ_1 rfl hcl trivial (Ret_of ?_)
                    refine bool_f (hnm ?_)
                    intro h; rw [pb_t h.2] at h11; cases h11
                  · (try rw [h11]); (try simp only [decide_eq_true_eq, decide_eq_false_iff_not, Bool.not_eq_true', Bool.not_eq_false', Int.not_lt, Int.not_le, Bool.not_true, Bool.not_false, Int.toNat_natCast, bne_iff_ne, beq_iff_eq, ne_eq, Decidable.not_not] at h11)
                    refine AWp_skip ?_
                    -- region 8 value.go:38
                    refine AWp_regL ?_
                    refine st rfl rfl rfl (op_add64 rfl rfl rfl (by omega) (by omega)) ?_
                    refine st rfl rfl rfl (op_moveO rfl rfl) ?_
                    refine AOps_nil ?_
                    refine ⟨i + 1, σ.length + 1, ⟨by omega, ?_⟩, by omega, by simp, ⟨rfl, rfl, rfl, rfl, rfl, trivial⟩, closed_own 1 hcl ?_, ?_, take_own 1⟩
                    · rw [mok_succ hq]; exact ⟨hi2, ⟨by simpa [Utf] using h7, fun q2 h _ => absurd hi0 h⟩, (pb_iff _).1 (by simpa using h11)⟩
                    · simp [ownLt, AO.cells, AV.ltL, AV.lt]
                    · simp [ltE, AV.lt]
            · (try rw [h6]); (try simp only [decide_eq_true_eq, decide_eq_false_iff_not, Bool.not_eq_true', Bool.not_eq_false', Int.not_lt, Int.not_le, Bool.not_true, Bool.not_false, Int.toNat_natCast, bne_iff_ne, beq_iff_eq, ne_eq, Decidable.not_not] at h6)
              have hie : i = v.m.length := by omega
              rw [hie] at hi2
              refine AWp_exit ?_
              refine AWp_seq ?_
              -- region 9 value.go:43
              refine AWp_regL ?_
              refine st rfl rfl rfl (op_fieldAddrO (fo := 6) rfl Tryd.underlying28 rfl rfl Tryd.sizeOf25 (by decide) rfl trivial) ?_
              refine st rfl rfl rfl (op_load1 rfl Tryd.isAgg25 (by first | exact ldv_own rfl rfl | exact ldv_pp rfl | exact ldv_old (by assumption) rfl | exact ldv_ptr (by assumption) rfl)) ?_
              refine st rfl rfl rfl (op_callF rfl rfl rfl Tryd.func31 rfl rfl (containsFunc_c 32 _ Tryd.func32 rfl rfl v.l (fun x => !pb (jmay x)) _ (by omega) (fun i x hx => mayFn_c x _ (fun σ => ih x σ (by have := lsize_mem hx; omega) (lb_get hb5 hx))))) ?_
              refine st rfl rfl rfl (op_not rfl rfl) ?_
              refine st rfl rfl rfl (op_assignO rfl rfl) ?_
              refine AOps_nil ?_
              refine AWp_ret ?_
              (try simp only [blockQ, thenQ])
              refine ResQ_1 rfl hcl trivial (Ret_of ?_)
              refine bool_of ?_
              rw [jmay_eq]
              simp only [Bool.not_eq_true', List.any_eq_false, Bool.not_eq_true]
              constructor
              · intro h; refine ⟨⟨by omega, by omega, by simp_all, by simpa [pb_iff] using h4, by simpa [Utf] using h5⟩, hi2, fun i x hx => ?_⟩
                have := h x (List.mem_of_getElem? hx); exact (pb_iff _).1 (by simpa using this)
              · intro h x hx; obtain ⟨j, hj⟩ := List.getElem?_of_mem hx; simp [pb_t (h.2.2 j x hj)]

end Lg
namespace Lg
open Go Go.Lib

/-- How many bytes the character has; 0: there is none. -/
def u8N (n b0 b1 b2 b3 : Nat) : Nat := if (decodeN n b0 b1 b2 b3).1 = 65533 ∧ (decodeN n b0 b1 b2 b3).2 = 1 then 0 else (decodeN n b0 b1 b2 b3).2
theorem u8N_1 {n b0 b1 b2 b3 : Nat} (h : b0 < 128) : u8N n b0 b1 b2 b3 = 1 := by
  have : decodeN n b0 b1 b2 b3 = (b0, 1) := by unfold decodeN; rw [if_pos h]
  simp only [u8N, this]; split <;> omega
theorem decodeN_ty (n b0 b1 b2 b3 : Nat) (h0 : ¬ b0 < 128) : (decodeN n b0 b1 b2 b3 = (65533, 1)) ∨ 2 ≤ (decodeN n b0 b1 b2 b3).2 := by
  unfold decodeN
  repeat' split
  all_goals first | (left; rfl) | (right; simp; done) | omega
theorem u8N_2 {n b0 b1 b2 b3 : Nat} (h : 192 ≤ b0) (h' : b0 < 224) : u8N n b0 b1 b2 b3 = if 1 < n ∧ (128 ≤ b1 ∧ b1 < 192) ∧ 128 ≤ 64 * (b0 - 192) + (b1 - 128) then 2 else 0 := by
  by_cases hc : 1 < n ∧ (128 ≤ b1 ∧ b1 < 192) ∧ 128 ≤ 64 * (b0 - 192) + (b1 - 128)
  · rw [if_pos hc]
    have : decodeN n b0 b1 b2 b3 = (b0 % 32 * 64 + b1 % 64, 2) := by
      unfold decodeN; rw [if_neg (by omega), if_pos (by omega), if_pos (by omega)]
    simp only [u8N, this]; split <;> omega
  · rw [if_neg hc]
    have : decodeN n b0 b1 b2 b3 = (65533, 1) := by
      unfold decodeN; rw [if_neg (by omega)]
      by_cases h1 : 1 < n ∧ b1 / 64 = 2
      · rw [if_pos (by omega), if_neg (by omega)]
      · rw [if_neg (by omega), if_neg (by omega), if_neg (by omega)]
    simp [u8N, this]
theorem u8N_3 {n b0 b1 b2 b3 v : Nat} (h : 224 ≤ b0) (h' : b0 < 240) (hv : v = 64 * (64 * (b0 - 224) + (b1 - 128)) + (b2 - 128)) :
    u8N n b0 b1 b2 b3 = if 2 < n ∧ (128 ≤ b1 ∧ b1 < 192) ∧ (128 ≤ b2 ∧ b2 < 192) ∧ 2048 ≤ v ∧ ¬ (55296 ≤ v ∧ v < 57344) then 3 else 0 := by
  by_cases hc : 2 < n ∧ (128 ≤ b1 ∧ b1 < 192) ∧ (128 ≤ b2 ∧ b2 < 192) ∧ 2048 ≤ v ∧ ¬ (55296 ≤ v ∧ v < 57344)
  · rw [if_pos hc]
    have e : b0 % 16 * 4096 + b1 % 64 * 64 + b2 % 64 = v := by omega
    have : decodeN n b0 b1 b2 b3 = (v, 3) := by
      unfold decodeN; rw [if_neg (by omega), if_neg (by omega), if_pos (by omega), e, if_pos (by omega)]
    simp only [u8N, this]; split <;> omega
  · rw [if_neg hc]
    have : decodeN n b0 b1 b2 b3 = (65533, 1) := by
      unfold decodeN; rw [if_neg (by omega), if_neg (by omega)]
      by_cases h1 : (1 < n ∧ b1 / 64 = 2) ∧ (2 < n ∧ b2 / 64 = 2)
      · have e : b0 % 16 * 4096 + b1 % 64 * 64 + b2 % 64 = v := by omega
        rw [if_pos (by omega), e, if_neg (by omega)]
      · rw [if_neg (by omega), if_neg (by omega)]
    simp [u8N, this]
theorem u8N_4 {n b0 b1 b2 b3 v : Nat} (h : 240 ≤ b0) (h' : b0 < 248) (hv : v = 64 * (64 * (64 * (b0 - 240) + (b1 - 128)) + (b2 - 128)) + (b3 - 128)) :
    u8N n b0 b1 b2 b3 = if 3 < n ∧ (128 ≤ b1 ∧ b1 < 192) ∧ (128 ≤ b2 ∧ b2 < 192) ∧ (128 ≤ b3 ∧ b3 < 192) ∧ 65536 ≤ v ∧ v ≤ 1114111 then 4 else 0 := by
  by_cases hc : 3 < n ∧ (128 ≤ b1 ∧ b1 < 192) ∧ (128 ≤ b2 ∧ b2 < 192) ∧ (128 ≤ b3 ∧ b3 < 192) ∧ 65536 ≤ v ∧ v ≤ 1114111
  · rw [if_pos hc]
    have e : b0 % 8 * 262144 + b1 % 64 * 4096 + b2 % 64 * 64 + b3 % 64 = v := by omega
    have : decodeN n b0 b1 b2 b3 = (v, 4) := by
      unfold decodeN; rw [if_neg (by omega), if_neg (by omega), if_neg (by omega), if_pos (by omega), e, if_pos (by omega)]
    simp only [u8N, this]; split <;> omega
  · rw [if_neg hc]
    have : decodeN n b0 b1 b2 b3 = (65533, 1) := by
      unfold decodeN; rw [if_neg (by omega), if_neg (by omega), if_neg (by omega)]
      by_cases h1 : (1 < n ∧ b1 / 64 = 2) ∧ (2 < n ∧ b2 / 64 = 2) ∧ (3 < n ∧ b3 / 64 = 2)
      · have e : b0 % 8 * 262144 + b1 % 64 * 4096 + b2 % 64 * 64 + b3 % 64 = v := by omega
        rw [if_pos (by omega), e, if_neg (by omega)]
      · rw [if_neg (by omega)]
    simp [u8N, this]
theorem u8N_0 {n b0 b1 b2 b3 : Nat} (h : (128 ≤ b0 ∧ b0 < 192) ∨ 248 ≤ b0) (h' : b0 < 256) : u8N n b0 b1 b2 b3 = 0 := by
  have : decodeN n b0 b1 b2 b3 = (65533, 1) := decodeN_bad n b0 b1 b2 b3 (by omega)
  simp [u8N, this]
/-- The same at a place of a text. -/
def u8 (s : ByteArray) (a : Nat) : Nat := u8N (s.size - a) (bat s a).toNat (bat s (a + 1)).toNat (bat s (a + 2)).toNat (bat s (a + 3)).toNat
theorem decode_bat (s : ByteArray) (a : Nat) : decodeL (s.data.toList.drop a) = decodeN (s.size - a) (bat s a).toNat (bat s (a + 1)).toNat (bat s (a + 2)).toNat (bat s (a + 3)).toNat := by
  have hg : ∀ k, (s.data.toList.drop a).getD k 0 = bat s (a + k) := fun k => by simp [bat, List.getD, List.getElem?_drop]
  rw [decodeL_N, hg, hg, hg, hg, List.length_drop, Array.length_toList]; rfl
/-- UTF-8 from a place on. -/
def utfFrom (s : ByteArray) (a : Nat) : Bool := validD (s.data.toList.drop a)
theorem utfFrom_end {s : ByteArray} {a : Nat} (h : s.size ≤ a) : utfFrom s a = true := by
  have : s.data.toList.drop a = [] := List.drop_eq_nil_of_le (by rw [Array.length_toList]; exact h)
  rw [utfFrom, this]; rfl
theorem utfFrom_step {s : ByteArray} {a : Nat} (h : a < s.size) : utfFrom s a = if u8 s a = 0 then false else utfFrom s (a + u8 s a) := by
  have hne : s.data.toList.drop a ≠ [] := by
    intro e
    have := congrArg List.length e
    rw [List.length_drop, Array.length_toList] at this
    have h' : a < s.data.size := h
    simp at this; omega
  unfold utfFrom
  rw [validD_step _ hne, decode_bat]
  have hw := decodeL_width (s.data.toList.drop a)
  rw [decode_bat] at hw
  unfold u8 u8N
  by_cases hc : (decodeN (s.size - a) (bat s a).toNat (bat s (a + 1)).toNat (bat s (a + 2)).toNat (bat s (a + 3)).toNat).1 = 65533 ∧ (decodeN (s.size - a) (bat s a).toNat (bat s (a + 1)).toNat (bat s (a + 2)).toNat (bat s (a + 3)).toNat).2 = 1
  · rw [if_pos hc, if_pos hc, if_pos rfl]
  · rw [if_neg hc, if_neg hc, if_neg (by omega), List.drop_drop]
theorem u8_le {s : ByteArray} {a : Nat} (h : a < s.size) : a + u8 s a ≤ s.size := by
  unfold u8
  by_cases h0 : (bat s a).toNat < 128
  · rw [u8N_1 h0]; omega
  by_cases h1 : (bat s a).toNat < 192 ∨ 248 ≤ (bat s a).toNat
  · rw [u8N_0 (by omega) (bat s a).toNat_lt]; omega
  by_cases h2 : (bat s a).toNat < 224
  · rw [u8N_2 (by omega) h2]; split <;> omega
  by_cases h3 : (bat s a).toNat < 240
  · rw [u8N_3 (by omega) h3 rfl]; split <;> omega
  · rw [u8N_4 (by omega) (by omega) rfl]; split <;> omega
end Lg
namespace Lg
open Go
/-- The reference's own: what a kind lets be. -/
def jbad (v : JV) : Bool := (v.b && !decide (v.kind = 1)) || (!decide (v.n.digits = ⟨#[]⟩) && !decide (v.kind = 2)) || (!decide (v.s = ⟨#[]⟩) && !decide (v.kind = 3)) || (!decide (v.l = []) && !decide (v.kind = 4)) || (!decide (v.m = []) && !decide (v.kind = 5))
theorem jbad_eq {v : JV} (h : NumMay v.n) : jbad v = !jbare v := by
  have hz : v.n.z = decide (v.n.digits = ⟨#[]⟩) := by
    unfold JNum.z
    rcases h with ⟨h1, h2, h3⟩ | ⟨h1, _⟩
    · simp [h1, h2, h3]
    · simp [h1]
  unfold jbad jbare
  rw [hz]
  simp only [List.length_eq_zero_iff]
  cases v.b <;> cases decide (v.kind = 1) <;> cases decide (v.n.digits = ⟨#[]⟩) <;> cases decide (v.kind = 2) <;> cases decide (v.s = ⟨#[]⟩) <;> cases decide (v.kind = 3) <;> cases decide (v.l = []) <;> cases decide (v.kind = 4) <;> cases decide (v.m = []) <;> cases decide (v.kind = 5) <;> rfl
end Lg
namespace Lg
open Go

theorem jnum_ext (a b : JNum) : a = b ↔ a.neg = b.neg ∧ a.digits = b.digits ∧ a.exp = b.exp := by cases a; cases b; simp
theorem jv_ext (a b : JV) : a = b ↔ a.kind = b.kind ∧ a.b = b.b ∧ (a.n.neg = b.n.neg ∧ a.n.digits = b.n.digits ∧ a.n.exp = b.n.exp) ∧ a.s = b.s ∧ a.l = b.l ∧ a.m = b.m := by
  rw [← jnum_ext]; cases a; cases b; simp [JV.kind, JV.b, JV.n, JV.s, JV.l, JV.m]
mutual
def jdepth : JV → Int
  | .mk k _ _ _ l m => if k = 4 ∨ k = 5 then max (ldep l) (mdep m) + 1 else 0
def ldep : List JV → Int
  | [] => 0
  | v :: r => max (ldep r) (jdepth v)
def mdep : List (ByteArray × JV) → Int
  | [] => 0
  | (_, v) :: r => max (mdep r) (jdepth v)
end
theorem jdepth_eq (v : JV) : jdepth v = if v.kind = 4 ∨ v.kind = 5 then max (ldep v.l) (mdep v.m) + 1 else 0 := by
  cases v with
  | mk k b n s l m =>
    simp only [jdepth, JV.kind, JV.l, JV.m]
    by_cases h : k = 4 ∨ k = 5 <;> simp only [h, if_true, if_false]
mutual
theorem jdepth_nn : ∀ v : JV, 0 ≤ jdepth v ∧ jdepth v ≤ jsize v
  | .mk k _ _ _ l m => by
    have := ldep_nn l; have := mdep_nn m; have := lsize_nn l; have := msize_nn m
    simp only [jdepth, jsize]; split <;> omega
theorem ldep_nn : ∀ l : List JV, 0 ≤ ldep l ∧ ldep l ≤ lsize l
  | [] => by simp [ldep, lsize]
  | v :: r => by have := jdepth_nn v; have := ldep_nn r; have := lsize_nn r; have := jsize_pos v; simp only [ldep, lsize]; omega
theorem mdep_nn : ∀ l : List (ByteArray × JV), 0 ≤ mdep l ∧ mdep l ≤ msize l
  | [] => by simp [mdep, msize]
  | (k, v) :: r => by have := jdepth_nn v; have := mdep_nn r; have := msize_nn r; have := jsize_pos v; simp only [mdep, msize]; omega
end
theorem ldep_take (l : List JV) (i : Nat) (v : JV) (h : l[i]? = some v) : ldep (l.take (i + 1)) = max (ldep (l.take i)) (jdepth v) := by
  induction l generalizing i with
  | nil => simp at h
  | cons a r ih =>
    have := jdepth_nn a
    cases i with
    | zero => simp at h; subst h; simp [ldep]
    | succ i => simp at h; simp only [List.take_succ_cons, ldep, ih i h]; omega
theorem mdep_take (l : List (ByteArray × JV)) (i : Nat) (q : ByteArray × JV) (h : l[i]? = some q) : mdep (l.take (i + 1)) = max (mdep (l.take i)) (jdepth q.2) := by
  induction l generalizing i with
  | nil => simp at h
  | cons a r ih =>
    obtain ⟨k, a⟩ := a
    have := jdepth_nn a
    cases i with
    | zero => simp at h; subst h; simp [mdep]
    | succ i => simp at h; simp only [List.take_succ_cons, mdep, ih i h]; omega
theorem lsize_take (l : List JV) (i : Nat) (v : JV) (h : l[i]? = some v) : lsize (l.take (i + 1)) = lsize (l.take i) + jsize v := by
  induction l generalizing i with
  | nil => simp at h
  | cons a r ih =>
    cases i with
    | zero => simp at h; subst h; simp [lsize]
    | succ i => simp at h; simp only [List.take_succ_cons, lsize, ih i h]; omega
theorem msize_take (l : List (ByteArray × JV)) (i : Nat) (q : ByteArray × JV) (h : l[i]? = some q) : msize (l.take (i + 1)) = msize (l.take i) + jsize q.2 := by
  induction l generalizing i with
  | nil => simp at h
  | cons a r ih =>
    obtain ⟨k, a⟩ := a
    cases i with
    | zero => simp at h; subst h; simp [msize]
    | succ i => simp at h; simp only [List.take_succ_cons, msize, ih i h]; omega
theorem lsize_take_le (l : List JV) (i : Nat) : lsize (l.take i) ≤ lsize l := by
  induction l generalizing i with
  | nil => simp
  | cons a r ih =>
    have := jsize_pos a
    cases i with
    | zero => simp only [List.take_zero, lsize]; have := lsize_nn r; omega
    | succ i => simp only [List.take_succ_cons, lsize]; have := ih i; omega
theorem msize_take_le (l : List (ByteArray × JV)) (i : Nat) : msize (l.take i) ≤ msize l := by
  induction l generalizing i with
  | nil => simp
  | cons a r ih =>
    obtain ⟨k, a⟩ := a
    have := jsize_pos a
    cases i with
    | zero => simp only [List.take_zero, msize]; have := msize_nn r; omega
    | succ i => simp only [List.take_succ_cons, msize]; have := ih i; omega
theorem llen_le (l : List JV) : (l.length : Int) ≤ lsize l := by
  induction l with
  | nil => simp [lsize]
  | cons a r ih => have := jsize_pos a; simp only [lsize, List.length_cons]; omega
theorem mlen_le (l : List (ByteArray × JV)) : (l.length : Int) ≤ msize l := by
  induction l with
  | nil => simp [msize]
  | cons a r ih => obtain ⟨k, a⟩ := a; have := jsize_pos a; simp only [msize, List.length_cons]; omega

theorem pb_niff (p : Prop) : pb p = false ↔ ¬ p := by
  constructor
  · intro h hp; rw [pb_t hp] at h; cases h
  · exact pb_f
theorem list_eq_of {α : Type} {l r : List α} (hl : l.length = r.length) (h : ∀ j : Nat, j < l.length → l[j]? = r[j]?) : l = r := by
  apply List.ext_getElem?
  intro i
  by_cases hi : i < l.length
  · exact h i hi
  · rw [List.getElem?_eq_none (by omega), List.getElem?_eq_none (by omega)]
section
variable [GLay] {P : Program}
theorem AC2 {f : FuncId} {a a' b b' : List AV} {σ : List AO} {R : Out → List AO → Prop} (e1 : a = a') (e2 : b = b') (h : ACalls P f [.agg a, .agg b] σ R) : ACalls P f [.agg a', .agg b'] σ R := by subst e1; subst e2; exact h
theorem AC1 {f : FuncId} {a a' : List AV} {σ : List AO} {R : Out → List AO → Prop} (e1 : a = a') (h : ACalls P f [.agg a] σ R) : ACalls P f [.agg a'] σ R := by subst e1; exact h
end
end Lg
set_option maxRecDepth 20000
set_option maxHeartbeats 4000000
namespace Lg
open Go Go.Proofs Go.RowKit
variable [GLay] 


theorem equalV_c (k : Nat) (fn : Go.Func) (hfn : Tryd.prog.funcs[k]? = some fn) (hname : (fn.name == "runtime.NumGoroutine") = false) (hb : fn.body.isNone = false) (l r : List JV) (σ : List AO) (hl : l.length ≤ 1000000) (hr : r.length ≤ 1000000) (hf : ∀ (i : Nat) x y, l[i]? = some x → r[i]? = some y → ∀ σ, ACalls Tryd.prog k [.agg (vcells x), .agg (vcells y)] σ (Ret (.bool (pb (x = y))) σ)) : ACalls Tryd.prog 35 [.sl false 8 (lcells l), .sl false 8 (lcells r), .func (.func k) [] []] σ (Ret (.bool (pb (l = r))) σ) := by
  refine ACalls_body Tryd.func35 rfl Tryd.ntmps35 (res1 Tryd.results35) (Nat.le_of_ble_eq_true rfl) (fun hcl hal => ?_)
  have hll := lcells_length l
  have hrl := lcells_length r
  refine AWp_seq ?_
  -- region 0 slices.go:37
  refine AWp_regL ?_
  refine st rfl rfl rfl (op_assignO rfl rfl) ?_
  refine AOps_nil ?_
  refine AWp_seq ?_
  refine AWp_seq ?_
  -- region 1 slices.go:38
  refine AWp_regL ?_
  refine st rfl rfl rfl (op_moveO rfl rfl) ?_
  refine st rfl rfl rfl (op_lenS rfl rfl Tryd.underlying25 rfl rfl trivial) ?_
  refine st rfl rfl rfl (op_moveO rfl rfl) ?_
  refine st rfl rfl rfl (op_lenS rfl rfl Tryd.underlying25 rfl rfl trivial) ?_
  refine st rfl rfl rfl (op_neq rfl rfl rfl) ?_
  refine AOps_nil ?_
  refine AWp_cond rfl (fun h1 => ?_) (fun h1 => ?_)
  · (try rw [h1]); (try simp only [decide_eq_true_eq, decide_eq_false_iff_not, Bool.not_eq_true', Bool.not_eq_false', Int.not_lt, Int.not_le, Bool.not_true, Bool.not_false, Int.toNat_natCast, bne_iff_ne, beq_iff_eq, beq_eq_false_iff_ne, ne_eq, Decidable.not_not] at h1)
    have hne : ¬ l = r := fun e => by subst e; omega
    refine AWp_seq ?_
    -- region 2 slices.go:39
    refine AWp_regL ?_
    refine st rfl rfl rfl (op_assignO rfl rfl) ?_
    refine AOps_nil ?_
    refine AWp_ret ?_
    (try simp only [blockQ, thenQ])
    exact ResQ_10 rfl hcl trivial (Ret_of (bool_f hne))
  · (try rw [h1]); (try simp only [decide_eq_true_eq, decide_eq_false_iff_not, Bool.not_eq_true', Bool.not_eq_false', Int.not_lt, Int.not_le, Bool.not_true, Bool.not_false, Int.toNat_natCast, bne_iff_ne, beq_iff_eq, beq_eq_false_iff_ne, ne_eq, Decidable.not_not] at h1)
    have hlen : l.length = r.length := by omega
    refine AWp_skip ?_
    refine AWp_seq ?_
    refine AWp_seq ?_
    -- region 3 slices.go:41
    refine AWp_regL ?_
    refine st rfl rfl rfl (op_moveO rfl rfl) ?_
    refine st rfl rfl rfl (op_lenS rfl rfl Tryd.underlying25 rfl rfl trivial) ?_
    refine st rfl rfl rfl (op_moveO rfl rfl) ?_
    refine AOps_nil ?_
    refine AWp_block ?_
    -- loop 0 LIVE 1:param 2:param 6:assign 15:move 16:call 17:move
    refine AWp_loop (ι := Nat) (fun i => i ≤ l.length ∧ ∀ j : Nat, j < i → l[j]? = r[j]?) (fun i => ⟨[], [(1, .sl false 8 (lcells r)), (2, .func (.func k) [] []), (15, .sl false 8 (lcells l)), (16, .int .i64 (l.length : Int)), (17, .int .i64 (i : Int))]⟩) (fun i => σ) (fun i => l.length - i) (0) (⟨Nat.zero_le _, fun j hj => absurd hj (by omega)⟩) ?_ rfl (fun i hi => ?_)
    · refine ⟨rfl, rfl, rfl, rfl, ?_, rfl, trivial⟩
      rw [← hll]; rfl
    obtain ⟨hi1, hi2⟩ := hi
    refine AWp_seq ?_
    -- region 4 slices.go:41
    refine AWp_regL ?_
    refine st rfl rfl rfl (op_lss rfl rfl rfl) ?_
    refine AOps_nil ?_
    refine AWp_seq ?_
    refine AWp_cond rfl (fun h2 => ?_) (fun h2 => ?_)
    · (try rw [h2]); (try simp only [decide_eq_true_eq, decide_eq_false_iff_not, Bool.not_eq_true', Bool.not_eq_false', Int.not_lt, Int.not_le, Bool.not_true, Bool.not_false, Int.toNat_natCast, bne_iff_ne, beq_iff_eq, beq_eq_false_iff_ne, ne_eq, Decidable.not_not] at h2)
      obtain ⟨x, hx⟩ : ∃ x, l[i]? = some x := ⟨_, List.getElem?_eq_getElem (show i < l.length by omega)⟩
      obtain ⟨y, hy⟩ : ∃ y, r[i]? = some y := ⟨_, List.getElem?_eq_getElem (show i < r.length by omega)⟩
      refine AWp_skip ?_
      refine AWp_seq ?_
      refine AWp_block ?_
      refine AWp_seq ?_
      -- region 5 slices.go:41
      refine AWp_regL ?_
      refine st rfl rfl rfl (op_moveO rfl rfl) ?_
      refine st rfl rfl rfl (op_indexAddr rfl Tryd.underlying25 Tryd.sizeOf28 rfl rfl (by omega) (lcells_get hx)) ?_
      rw [vcells_eq x]
      refine st rfl rfl rfl (op_loadK (cs := [_, _, _, _, _, _, _, _]) rfl Tryd.isAgg28 Tryd.sizeOf28 (by first | exact ldv_own rfl rfl | exact ldv_pp rfl | exact ldv_old (by assumption) rfl | exact ldv_ptr (by assumption) rfl)) ?_
      refine st rfl rfl rfl (op_alloc0 (cs := [_, _, _, _, _, _, _, _]) rfl Tryd.zeroValue28 rfl) ?_
      refine st rfl rfl rfl (op_assignO rfl rfl) ?_
      refine stN rfl rfl ((by first | exact op_storeO (r := [_, _, _, _, _, _, _, _]) rfl Tryd.sizeOf28 rfl rfl rfl rfl rfl (by decide) | exact op_storeP (r := [_, _, _, _, _, _, _, _]) rfl Tryd.sizeOf28 rfl rfl rfl (by assumption) rfl (by decide))) ?_
      refine AOps_nil ?_
      refine AWp_seq ?_
      -- region 6 slices.go:42
      refine AWp_regL ?_
      refine st rfl rfl rfl (op_moveO rfl rfl) ?_
      refine st rfl rfl rfl (op_moveO rfl rfl) ?_
      refine st rfl rfl rfl (op_indexAddr rfl Tryd.underlying25 Tryd.sizeOf28 rfl rfl (by omega) (lcells_get hy)) ?_
      rw [vcells_eq y]
      refine st rfl rfl rfl (op_loadK (cs := [_, _, _, _, _, _, _, _]) rfl Tryd.isAgg28 Tryd.sizeOf28 (by first | exact ldv_own rfl rfl | exact ldv_pp rfl | exact ldv_old (by assumption) rfl | exact ldv_ptr (by assumption) rfl)) ?_
      refine st rfl rfl rfl (op_allocO (cs := [_, _, _, _, _, _, _, _]) 1 rfl rfl Tryd.zeroValue28 rfl) ?_
      refine stN rfl rfl ((by first | exact op_storeO (r := [_, _, _, _, _, _, _, _]) rfl Tryd.sizeOf28 rfl rfl rfl rfl rfl (by decide) | exact op_storeP (r := [_, _, _, _, _, _, _, _]) rfl Tryd.sizeOf28 rfl rfl rfl (by assumption) rfl (by decide))) ?_
      refine AOps_nil ?_
      refine AWp_seq ?_
      -- region 7 slices.go:43
      refine AWp_regL ?_
      refine st rfl rfl rfl (op_moveO rfl rfl) ?_
      refine st rfl rfl rfl (op_loadK (cs := [_, _, _, _, _, _, _, _]) rfl Tryd.isAgg28 Tryd.sizeOf28 (by first | exact ldv_own rfl rfl | exact ldv_pp rfl | exact ldv_old (by assumption) rfl | exact ldv_ptr (by assumption) rfl)) ?_
      refine st rfl rfl rfl (op_loadK (cs := [_, _, _, _, _, _, _, _]) rfl Tryd.isAgg28 Tryd.sizeOf28 (by first | exact ldv_own rfl rfl | exact ldv_pp rfl | exact ldv_old (by assumption) rfl | exact ldv_ptr (by assumption) rfl)) ?_
      refine st rfl rfl rfl (op_callF rfl rfl rfl hfn hname hb (AC2 (vcells_eq x) (vcells_eq y) (hf i x y hx hy _))) ?_
      refine st rfl rfl rfl (op_not rfl rfl) ?_
      refine AOps_nil ?_
      refine AWp_cond rfl (fun h3 => ?_) (fun h3 => ?_)
      · (try rw [h3]); (try simp only [decide_eq_true_eq, decide_eq_false_iff_not, Bool.not_eq_true', Bool.not_eq_false', Int.not_lt, Int.not_le, Bool.not_true, Bool.not_false, Int.toNat_natCast, bne_iff_ne, beq_iff_eq, beq_eq_false_iff_ne, ne_eq, Decidable.not_not] at h3)
        refine AWp_seq ?_
        -- region 8 slices.go:44
        refine AWp_regL ?_
        refine st rfl rfl rfl (op_assignO rfl rfl) ?_
        refine AOps_nil ?_
        refine AWp_ret ?_
        (try simp only [blockQ, thenQ])
        refine ResQ_1 rfl hcl trivial (Ret_of (bool_f fun e => ?_))
        subst e; rw [hx] at hy; cases hy; rw [pb_t rfl] at h3; cases h3
      · (try rw [h3]); (try simp only [decide_eq_true_eq, decide_eq_false_iff_not, Bool.not_eq_true', Bool.not_eq_false', Int.not_lt, Int.not_le, Bool.not_true, Bool.not_false, Int.toNat_natCast, bne_iff_ne, beq_iff_eq, beq_eq_false_iff_ne, ne_eq, Decidable.not_not] at h3)
        refine AWp_skip ?_
        -- region 9 slices.go:41
        refine AWp_regL ?_
        refine st rfl rfl rfl (op_add64 rfl rfl rfl (by omega) (by omega)) ?_
        refine st rfl rfl rfl (op_moveO rfl rfl) ?_
        refine AOps_nil ?_
        have hxy := (pb_iff _).1 h3
        refine ⟨i + 1, σ.length, ⟨by omega, fun j hj => ?_⟩, by omega, Nat.le_refl _, ⟨rfl, rfl, rfl, rfl, rfl, rfl, trivial⟩, closed_old hcl, ?_, take_old⟩
        · by_cases e : j = i
          · subst e; rw [hx, hy, hxy]
          · exact hi2 j (by omega)
        · simp [ltE, AV.lt, AV.ltL]
    · (try rw [h2]); (try simp only [decide_eq_true_eq, decide_eq_false_iff_not, Bool.not_eq_true', Bool.not_eq_false', Int.not_lt, Int.not_le, Bool.not_true, Bool.not_false, Int.toNat_natCast, bne_iff_ne, beq_iff_eq, beq_eq_false_iff_ne, ne_eq, Decidable.not_not] at h2)
      refine AWp_exit ?_
      refine AWp_seq ?_
      -- region 10 slices.go:47
      refine AWp_regL ?_
      refine st rfl rfl rfl (op_assignO rfl rfl) ?_
      refine AOps_nil ?_
      refine AWp_ret ?_
      (try simp only [blockQ, thenQ])
      exact ResQ_10 rfl hcl trivial (Ret_of (bool_t (list_eq_of hlen fun j hj => hi2 j (by omega))))

theorem equalM_c (k : Nat) (fn : Go.Func) (hfn : Tryd.prog.funcs[k]? = some fn) (hname : (fn.name == "runtime.NumGoroutine") = false) (hb : fn.body.isNone = false) (l r : List (ByteArray × JV)) (σ : List AO) (hl : l.length ≤ 1000000) (hr : r.length ≤ 1000000) (hf : ∀ (i : Nat) x y, l[i]? = some x → r[i]? = some y → ∀ σ, ACalls Tryd.prog k [.agg (.str x.1 :: vcells x.2), .agg (.str y.1 :: vcells y.2)] σ (Ret (.bool (pb (x = y))) σ)) : ACalls Tryd.prog 36 [.sl false 9 (mcells l), .sl false 9 (mcells r), .func (.func k) [] []] σ (Ret (.bool (pb (l = r))) σ) := by
  refine ACalls_body Tryd.func36 rfl Tryd.ntmps36 (res1 Tryd.results36) (Nat.le_of_ble_eq_true rfl) (fun hcl hal => ?_)
  have hll := mcells_length l
  have hrl := mcells_length r
  refine AWp_seq ?_
  -- region 0 slices.go:37
  refine AWp_regL ?_
  refine st rfl rfl rfl (op_assignO rfl rfl) ?_
  refine AOps_nil ?_
  refine AWp_seq ?_
  refine AWp_seq ?_
  -- region 1 slices.go:38
  refine AWp_regL ?_
  refine st rfl rfl rfl (op_moveO rfl rfl) ?_
  refine st rfl rfl rfl (op_lenS rfl rfl Tryd.underlying26 rfl rfl trivial) ?_
  refine st rfl rfl rfl (op_moveO rfl rfl) ?_
  refine st rfl rfl rfl (op_lenS rfl rfl Tryd.underlying26 rfl rfl trivial) ?_
  refine st rfl rfl rfl (op_neq rfl rfl rfl) ?_
  refine AOps_nil ?_
  refine AWp_cond rfl (fun h1 => ?_) (fun h1 => ?_)
  · (try rw [h1]); (try simp only [decide_eq_true_eq, decide_eq_false_iff_not, Bool.not_eq_true', Bool.not_eq_false', Int.not_lt, Int.not_le, Bool.not_true, Bool.not_false, Int.toNat_natCast, bne_iff_ne, beq_iff_eq, beq_eq_false_iff_ne, ne_eq, Decidable.not_not] at h1)
    have hne : ¬ l = r := fun e => by subst e; omega
    refine AWp_seq ?_
    -- region 2 slices.go:39
    refine AWp_regL ?_
    refine st rfl rfl rfl (op_assignO rfl rfl) ?_
    refine AOps_nil ?_
    refine AWp_ret ?_
    (try simp only [blockQ, thenQ])
    exact ResQ_10 rfl hcl trivial (Ret_of (bool_f hne))
  · (try rw [h1]); (try simp only [decide_eq_true_eq, decide_eq_false_iff_not, Bool.not_eq_true', Bool.not_eq_false', Int.not_lt, Int.not_le, Bool.not_true, Bool.not_false, Int.toNat_natCast, bne_iff_ne, beq_iff_eq, beq_eq_false_iff_ne, ne_eq, Decidable.not_not] at h1)
    have hlen : l.length = r.length := by omega
    refine AWp_skip ?_
    refine AWp_seq ?_
    refine AWp_seq ?_
    -- region 3 slices.go:41
    refine AWp_regL ?_
    refine st rfl rfl rfl (op_moveO rfl rfl) ?_
    refine st rfl rfl rfl (op_lenS rfl rfl Tryd.underlying26 rfl rfl trivial) ?_
    refine st rfl rfl rfl (op_moveO rfl rfl) ?_
    refine AOps_nil ?_
    refine AWp_block ?_
    -- loop 0 LIVE 1:param 2:param 6:assign 15:move 16:call 17:move
    refine AWp_loop (ι := Nat) (fun i => i ≤ l.length ∧ ∀ j : Nat, j < i → l[j]? = r[j]?) (fun i => ⟨[], [(1, .sl false 9 (mcells r)), (2, .func (.func k) [] []), (15, .sl false 9 (mcells l)), (16, .int .i64 (l.length : Int)), (17, .int .i64 (i : Int))]⟩) (fun i => σ) (fun i => l.length - i) (0) (⟨Nat.zero_le _, fun j hj => absurd hj (by omega)⟩) ?_ rfl (fun i hi => ?_)
    · refine ⟨rfl, rfl, rfl, rfl, ?_, rfl, trivial⟩
      rw [← hll]; rfl
    obtain ⟨hi1, hi2⟩ := hi
    refine AWp_seq ?_
    -- region 4 slices.go:41
    refine AWp_regL ?_
    refine st rfl rfl rfl (op_lss rfl rfl rfl) ?_
    refine AOps_nil ?_
    refine AWp_seq ?_
    refine AWp_cond rfl (fun h2 => ?_) (fun h2 => ?_)
    · (try rw [h2]); (try simp only [decide_eq_true_eq, decide_eq_false_iff_not, Bool.not_eq_true', Bool.not_eq_false', Int.not_lt, Int.not_le, Bool.not_true, Bool.not_false, Int.toNat_natCast, bne_iff_ne, beq_iff_eq, beq_eq_false_iff_ne, ne_eq, Decidable.not_not] at h2)
      obtain ⟨x, hx⟩ : ∃ x, l[i]? = some x := ⟨_, List.getElem?_eq_getElem (show i < l.length by omega)⟩
      obtain ⟨y, hy⟩ : ∃ y, r[i]? = some y := ⟨_, List.getElem?_eq_getElem (show i < r.length by omega)⟩
      refine AWp_skip ?_
      refine AWp_seq ?_
      refine AWp_block ?_
      refine AWp_seq ?_
      -- region 5 slices.go:41
      refine AWp_regL ?_
      refine st rfl rfl rfl (op_moveO rfl rfl) ?_
      refine st rfl rfl rfl (op_indexAddr rfl Tryd.underlying26 Tryd.sizeOf30 rfl rfl (by omega) (mcells_get hx)) ?_
      rw [vcells_eq x.2]
      refine st rfl rfl rfl (op_loadK (cs := [_, _, _, _, _, _, _, _, _]) rfl Tryd.isAgg30 Tryd.sizeOf30 (by first | exact ldv_own rfl rfl | exact ldv_pp rfl | exact ldv_old (by assumption) rfl | exact ldv_ptr (by assumption) rfl)) ?_
      refine st rfl rfl rfl (op_alloc0 (cs := [_, _, _, _, _, _, _, _, _]) rfl Tryd.zeroValue30 rfl) ?_
      refine st rfl rfl rfl (op_assignO rfl rfl) ?_
      refine stN rfl rfl ((by first | exact op_storeO (r := [_, _, _, _, _, _, _, _, _]) rfl Tryd.sizeOf30 rfl rfl rfl rfl rfl (by decide) | exact op_storeP (r := [_, _, _, _, _, _, _, _, _]) rfl Tryd.sizeOf30 rfl rfl rfl (by assumption) rfl (by decide))) ?_
      refine AOps_nil ?_
      refine AWp_seq ?_
      -- region 6 slices.go:42
      refine AWp_regL ?_
      refine st rfl rfl rfl (op_moveO rfl rfl) ?_
      refine st rfl rfl rfl (op_moveO rfl rfl) ?_
      refine st rfl rfl rfl (op_indexAddr rfl Tryd.underlying26 Tryd.sizeOf30 rfl rfl (by omega) (mcells_get hy)) ?_
      rw [vcells_eq y.2]
      refine st rfl rfl rfl (op_loadK (cs := [_, _, _, _, _, _, _, _, _]) rfl Tryd.isAgg30 Tryd.sizeOf30 (by first | exact ldv_own rfl rfl | exact ldv_pp rfl | exact ldv_old (by assumption) rfl | exact ldv_ptr (by assumption) rfl)) ?_
      refine st rfl rfl rfl (op_allocO (cs := [_, _, _, _, _, _, _, _, _]) 1 rfl rfl Tryd.zeroValue30 rfl) ?_
      refine stN rfl rfl ((by first | exact op_storeO (r := [_, _, _, _, _, _, _, _, _]) rfl Tryd.sizeOf30 rfl rfl rfl rfl rfl (by decide) | exact op_storeP (r := [_, _, _, _, _, _, _, _, _]) rfl Tryd.sizeOf30 rfl rfl rfl (by assumption) rfl (by decide))) ?_
      refine AOps_nil ?_
      refine AWp_seq ?_
      -- region 7 slices.go:43
      refine AWp_regL ?_
      refine st rfl rfl rfl (op_moveO rfl rfl) ?_
      refine st rfl rfl rfl (op_loadK (cs := [_, _, _, _, _, _, _, _, _]) rfl Tryd.isAgg30 Tryd.sizeOf30 (by first | exact ldv_own rfl rfl | exact ldv_pp rfl | exact ldv_old (by assumption) rfl | exact ldv_ptr (by assumption) rfl)) ?_
      refine st rfl rfl rfl (op_loadK (cs := [_, _, _, _, _, _, _, _, _]) rfl Tryd.isAgg30 Tryd.sizeOf30 (by first | exact ldv_own rfl rfl | exact ldv_pp rfl | exact ldv_old (by assumption) rfl | exact ldv_ptr (by assumption) rfl)) ?_
      refine st rfl rfl rfl (op_callF rfl rfl rfl hfn hname hb (AC2 (congrArg _ (vcells_eq x.2)) (congrArg _ (vcells_eq y.2)) (hf i x y hx hy _))) ?_
      refine st rfl rfl rfl (op_not rfl rfl) ?_
      refine AOps_nil ?_
      refine AWp_cond rfl (fun h3 => ?_) (fun h3 => ?_)
      · (try rw [h3]); (try simp only [decide_eq_true_eq, decide_eq_false_iff_not, Bool.not_eq_true', Bool.not_eq_false', Int.not_lt, Int.not_le, Bool.not_true, Bool.not_false, Int.toNat_natCast, bne_iff_ne, beq_iff_eq, beq_eq_false_iff_ne, ne_eq, Decidable.not_not] at h3)
        refine AWp_seq ?_
        -- region 8 slices.go:44
        refine AWp_regL ?_
        refine st rfl rfl rfl (op_assignO rfl rfl) ?_
        refine AOps_nil ?_
        refine AWp_ret ?_
        (try simp only [blockQ, thenQ])
        refine ResQ_1 rfl hcl trivial (Ret_of (bool_f fun e => ?_))
        subst e; rw [hx] at hy; cases hy; rw [pb_t rfl] at h3; cases h3
      · (try rw [h3]); (try simp only [decide_eq_true_eq, decide_eq_false_iff_not, Bool.not_eq_true', Bool.not_eq_false', Int.not_lt, Int.not_le, Bool.not_true, Bool.not_false, Int.toNat_natCast, bne_iff_ne, beq_iff_eq, beq_eq_false_iff_ne, ne_eq, Decidable.not_not] at h3)
        refine AWp_skip ?_
        -- region 9 slices.go:41
        refine AWp_regL ?_
        refine st rfl rfl rfl (op_add64 rfl rfl rfl (by omega) (by omega)) ?_
        refine st rfl rfl rfl (op_moveO rfl rfl) ?_
        refine AOps_nil ?_
        have hxy := (pb_iff _).1 h3
        refine ⟨i + 1, σ.length, ⟨by omega, fun j hj => ?_⟩, by omega, Nat.le_refl _, ⟨rfl, rfl, rfl, rfl, rfl, rfl, trivial⟩, closed_old hcl, ?_, take_old⟩
        · by_cases e : j = i
          · subst e; rw [hx, hy, hxy]
          · exact hi2 j (by omega)
        · simp [ltE, AV.lt, AV.ltL]
    · (try rw [h2]); (try simp only [decide_eq_true_eq, decide_eq_false_iff_not, Bool.not_eq_true', Bool.not_eq_false', Int.not_lt, Int.not_le, Bool.not_true, Bool.not_false, Int.toNat_natCast, bne_iff_ne, beq_iff_eq, beq_eq_false_iff_ne, ne_eq, Decidable.not_not] at h2)
      refine AWp_exit ?_
      refine AWp_seq ?_
      -- region 10 slices.go:47
      refine AWp_regL ?_
      refine st rfl rfl rfl (op_assignO rfl rfl) ?_
      refine AOps_nil ?_
      refine AWp_ret ?_
      (try simp only [blockQ, thenQ])
      exact ResQ_10 rfl hcl trivial (Ret_of (bool_t (list_eq_of hlen fun j hj => hi2 j (by omega))))

theorem sameFn_c (x y : ByteArray × JV) (σ : List AO) (h : ∀ σ, ACalls Tryd.prog 15 [.agg (vcells x.2), .agg (vcells y.2)] σ (Ret (.bool (pb (x.2 = y.2))) σ)) : ACalls Tryd.prog 37 [.agg (.str x.1 :: vcells x.2), .agg (.str y.1 :: vcells y.2)] σ (Ret (.bool (pb (x = y))) σ) := by
  refine ACalls_body Tryd.func37 rfl Tryd.ntmps37 (res1 Tryd.results37) (Nat.le_of_ble_eq_true rfl) (fun hcl hal => ?_)
  rw [vcells_eq x.2, vcells_eq y.2]
  refine AWp_seq ?_
  -- region 0 value.go:48
  refine AWp_regL ?_
  refine st rfl rfl rfl (op_box0 (cs := [_, _, _, _, _, _, _, _, _]) rfl rfl rfl) ?_
  refine st rfl rfl rfl (op_boxO (cs := [_, _, _, _, _, _, _, _, _]) 1 rfl rfl rfl rfl) ?_
  refine st rfl rfl rfl (op_assignO rfl rfl) ?_
  refine AOps_nil ?_
  refine AWp_seq ?_
  -- region 1 value.go:48
  refine AWp_regL ?_
  refine st rfl rfl rfl (op_fieldAddrO (fo := 0) rfl Tryd.underlying30 rfl rfl Tryd.sizeOf9 (by decide) rfl trivial) ?_
  refine st rfl rfl rfl (op_load1 rfl Tryd.isAgg9 (by first | exact ldv_own rfl rfl | exact ldv_pp rfl | exact ldv_old (by assumption) rfl | exact ldv_ptr (by assumption) rfl)) ?_
  refine st rfl rfl rfl (op_fieldAddrO (fo := 0) rfl Tryd.underlying30 rfl rfl Tryd.sizeOf9 (by decide) rfl trivial) ?_
  refine st rfl rfl rfl (op_load1 rfl Tryd.isAgg9 (by first | exact ldv_own rfl rfl | exact ldv_pp rfl | exact ldv_old (by assumption) rfl | exact ldv_ptr (by assumption) rfl)) ?_
  refine st rfl rfl rfl (op_seql rfl rfl rfl) ?_
  refine st rfl rfl rfl (op_moveO rfl rfl) ?_
  refine AOps_split 10 rfl (fun h1 => ?_) (fun h1 => ?_)
  · rw [h1]; (try simp only [decide_eq_true_eq, decide_eq_false_iff_not, Bool.not_eq_true', Bool.not_eq_false', Int.not_lt, Int.not_le, Bool.not_true, Bool.not_false, Int.toNat_natCast, bne_iff_ne, beq_iff_eq, beq_eq_false_iff_ne, ne_eq, Decidable.not_not] at h1)
    refine stG rfl rfl rfl rfl rfl rfl (op_fieldAddrO (fo := 1) rfl Tryd.underlying30 rfl rfl Tryd.sizeOf28 (by decide) rfl trivial) ?_
    refine stG rfl rfl rfl rfl rfl rfl (op_loadK (cs := [_, _, _, _, _, _, _, _]) rfl Tryd.isAgg28 Tryd.sizeOf28 (by first | exact ldv_own rfl rfl | exact ldv_pp rfl | exact ldv_old (by assumption) rfl | exact ldv_ptr (by assumption) rfl)) ?_
    refine stG rfl rfl rfl rfl rfl rfl (op_fieldAddrO (fo := 1) rfl Tryd.underlying30 rfl rfl Tryd.sizeOf28 (by decide) rfl trivial) ?_
    refine stG rfl rfl rfl rfl rfl rfl (op_loadK (cs := [_, _, _, _, _, _, _, _]) rfl Tryd.isAgg28 Tryd.sizeOf28 (by first | exact ldv_own rfl rfl | exact ldv_pp rfl | exact ldv_old (by assumption) rfl | exact ldv_ptr (by assumption) rfl)) ?_
    refine stG rfl rfl rfl rfl rfl rfl (op_callF rfl rfl rfl Tryd.func15 rfl rfl (AC2 (vcells_eq x.2) (vcells_eq y.2) (h _))) ?_
    refine st rfl rfl rfl (op_pickTO rfl rfl rfl) ?_
    refine st rfl rfl rfl (op_assignO rfl rfl) ?_
    refine AOps_nil ?_
    refine AWp_ret ?_
    (try simp only [blockQ, thenQ])
    refine ResQ_1 rfl hcl trivial (Ret_of ?_)
    refine bool_of ?_
    rw [Prod.ext_iff]
    simp_all [pb_iff, pb_niff]
  · rw [h1]; (try simp only [decide_eq_true_eq, decide_eq_false_iff_not, Bool.not_eq_true', Bool.not_eq_false', Int.not_lt, Int.not_le, Bool.not_true, Bool.not_false, Int.toNat_natCast, bne_iff_ne, beq_iff_eq, beq_eq_false_iff_ne, ne_eq, Decidable.not_not] at h1)
    refine stS rfl rfl rfl (.inl rfl) rfl rfl ?_
    refine stS rfl rfl rfl (.inl rfl) rfl rfl ?_
    refine stS rfl rfl rfl (.inl rfl) rfl rfl ?_
    refine stS rfl rfl rfl (.inl rfl) rfl rfl ?_
    refine stS rfl rfl rfl (.inl rfl) rfl rfl ?_
    refine st rfl rfl rfl (op_pickFO rfl rfl rfl) ?_
    refine st rfl rfl rfl (op_assignO rfl rfl) ?_
    refine AOps_nil ?_
    refine AWp_ret ?_
    (try simp only [blockQ, thenQ])
    refine ResQ_1 rfl hcl trivial (Ret_of ?_)
    refine bool_of ?_
    rw [Prod.ext_iff]
    simp_all [pb_iff, pb_niff]

theorem same_any (n : Nat) : ∀ (x y : JV) (σ : List AO), jsize x ≤ n → jb x → jb y → ACalls Tryd.prog 15 [.agg (vcells x), .agg (vcells y)] σ (Ret (.bool (pb (x = y))) σ) := by
  induction n with
  | zero => intro x y σ h; have := jsize_pos x; omega
  | succ n ih =>
  intro x y σ hn hjx hjy
  have hvs := jsize_eq x
  have hl := lsize_nn x.l
  have hm := msize_nn x.m
  obtain ⟨hb1, hb2, hb3, hb4, hb5, hb6⟩ := (jb_eq x).1 hjx
  obtain ⟨hc1, hc2, hc3, hc4, hc5, hc6⟩ := (jb_eq y).1 hjy
  refine ACalls_body Tryd.func15 rfl Tryd.ntmps15 (res1 Tryd.results15) (Nat.le_of_ble_eq_true rfl) (fun hcl hal => ?_)
  rw [vcells_eq x, vcells_eq y]
  refine AWp_seq ?_
  -- region 0 value.go:47
  refine AWp_regL ?_
  refine st rfl rfl rfl (op_box0 (cs := [_, _, _, _, _, _, _, _]) rfl rfl rfl) ?_
  refine st rfl rfl rfl (op_boxO (cs := [_, _, _, _, _, _, _, _]) 1 rfl rfl rfl rfl) ?_
  refine st rfl rfl rfl (op_assignO rfl rfl) ?_
  refine AOps_nil ?_
  refine AWp_seq ?_
  -- region 1 value.go:48
  refine AWp_regL ?_
  refine st rfl rfl rfl (op_fieldAddrO (fo := 0) rfl Tryd.underlying28 rfl rfl Tryd.sizeOf3 (by decide) rfl trivial) ?_
  refine st rfl rfl rfl (op_load1 rfl Tryd.isAgg3 (by first | exact ldv_own rfl rfl | exact ldv_pp rfl | exact ldv_old (by assumption) rfl | exact ldv_ptr (by assumption) rfl)) ?_
  refine st rfl rfl rfl (op_fieldAddrO (fo := 0) rfl Tryd.underlying28 rfl rfl Tryd.sizeOf3 (by decide) rfl trivial) ?_
  refine st rfl rfl rfl (op_load1 rfl Tryd.isAgg3 (by first | exact ldv_own rfl rfl | exact ldv_pp rfl | exact ldv_old (by assumption) rfl | exact ldv_ptr (by assumption) rfl)) ?_
  refine st rfl rfl rfl (op_eql rfl rfl rfl) ?_
  refine st rfl rfl rfl (op_moveO rfl rfl) ?_
  refine AOps_split 10 rfl (fun h1 => ?_) (fun h1 => ?_)
  · rw [h1]; (try simp only [decide_eq_true_eq, decide_eq_false_iff_not, Bool.not_eq_true', Bool.not_eq_false', Int.not_lt, Int.not_le, Bool.not_true, Bool.not_false, Int.toNat_natCast, bne_iff_ne, beq_iff_eq, beq_eq_false_iff_ne, ne_eq, Decidable.not_not] at h1)
    refine stG rfl rfl rfl rfl rfl rfl (op_fieldAddrO (fo := 1) rfl Tryd.underlying28 rfl rfl Tryd.sizeOf4 (by decide) rfl trivial) ?_
    refine stG rfl rfl rfl rfl rfl rfl (op_load1 rfl Tryd.isAgg4 (by first | exact ldv_own rfl rfl | exact ldv_pp rfl | exact ldv_old (by assumption) rfl | exact ldv_ptr (by assumption) rfl)) ?_
    refine stG rfl rfl rfl rfl rfl rfl (op_fieldAddrO (fo := 1) rfl Tryd.underlying28 rfl rfl Tryd.sizeOf4 (by decide) rfl trivial) ?_
    refine stG rfl rfl rfl rfl rfl rfl (op_load1 rfl Tryd.isAgg4 (by first | exact ldv_own rfl rfl | exact ldv_pp rfl | exact ldv_old (by assumption) rfl | exact ldv_ptr (by assumption) rfl)) ?_
    refine stG rfl rfl rfl rfl rfl rfl (op_beql rfl Tryd.underlying4 rfl rfl) ?_
    refine st rfl rfl rfl (op_pickTO rfl rfl rfl) ?_
    refine st rfl rfl rfl (op_moveO rfl rfl) ?_
    refine AOps_split 17 rfl (fun h2 => ?_) (fun h2 => ?_)
    · rw [h2]; (try simp only [decide_eq_true_eq, decide_eq_false_iff_not, Bool.not_eq_true', Bool.not_eq_false', Int.not_lt, Int.not_le, Bool.not_true, Bool.not_false, Int.toNat_natCast, bne_iff_ne, beq_iff_eq, beq_eq_false_iff_ne, ne_eq, Decidable.not_not] at h2)
      refine stG rfl rfl rfl rfl rfl rfl (op_fieldAddrO (fo := 2) rfl Tryd.underlying28 rfl rfl Tryd.sizeOf23 (by decide) rfl trivial) ?_
      refine stG rfl rfl rfl rfl rfl rfl (op_loadK (cs := [_, _, _]) rfl Tryd.isAgg23 Tryd.sizeOf23 (by first | exact ldv_own rfl rfl | exact ldv_pp rfl | exact ldv_old (by assumption) rfl | exact ldv_ptr (by assumption) rfl)) ?_
      refine stG rfl rfl rfl rfl rfl rfl (op_fieldAddrO (fo := 2) rfl Tryd.underlying28 rfl rfl Tryd.sizeOf23 (by decide) rfl trivial) ?_
      refine stG rfl rfl rfl rfl rfl rfl (op_loadK (cs := [_, _, _]) rfl Tryd.isAgg23 Tryd.sizeOf23 (by first | exact ldv_own rfl rfl | exact ldv_pp rfl | exact ldv_old (by assumption) rfl | exact ldv_ptr (by assumption) rfl)) ?_
      refine stG rfl rfl rfl rfl rfl rfl (op_eqS rfl Tryd.underlying23 (by kernel_rfl) (by kernel_rfl) (.bool _ _ _ _ _ _ _ _ (by decide) rfl Tryd.underlying4 (.str _ _ _ _ _ _ _ _ (by decide) rfl Tryd.underlying9 (.int _ _ _ _ _ _ _ _ _ _ (by decide) rfl Tryd.underlying3 (.nil _)))) rfl rfl) ?_
      refine st rfl rfl rfl (op_pickTO rfl rfl rfl) ?_
      refine st rfl rfl rfl (op_moveO rfl rfl) ?_
      refine AOps_split 24 rfl (fun h3 => ?_) (fun h3 => ?_)
      · rw [h3]; (try simp only [decide_eq_true_eq, decide_eq_false_iff_not, Bool.not_eq_true', Bool.not_eq_false', Int.not_lt, Int.not_le, Bool.not_true, Bool.not_false, Int.toNat_natCast, bne_iff_ne, beq_iff_eq, beq_eq_false_iff_ne, ne_eq, Decidable.not_not] at h3)
        refine stG rfl rfl rfl rfl rfl rfl (op_fieldAddrO (fo := 5) rfl Tryd.underlying28 rfl rfl Tryd.sizeOf9 (by decide) rfl trivial) ?_
        refine stG rfl rfl rfl rfl rfl rfl (op_load1 rfl Tryd.isAgg9 (by first | exact ldv_own rfl rfl | exact ldv_pp rfl | exact ldv_old (by assumption) rfl | exact ldv_ptr (by assumption) rfl)) ?_
        refine stG rfl rfl rfl rfl rfl rfl (op_fieldAddrO (fo := 5) rfl Tryd.underlying28 rfl rfl Tryd.sizeOf9 (by decide) rfl trivial) ?_
        refine stG rfl rfl rfl rfl rfl rfl (op_load1 rfl Tryd.isAgg9 (by first | exact ldv_own rfl rfl | exact ldv_pp rfl | exact ldv_old (by assumption) rfl | exact ldv_ptr (by assumption) rfl)) ?_
        refine stG rfl rfl rfl rfl rfl rfl (op_seql rfl rfl rfl) ?_
        refine st rfl rfl rfl (op_pickTO rfl rfl rfl) ?_
        refine st rfl rfl rfl (op_moveO rfl rfl) ?_
        refine AOps_split 31 rfl (fun h4 => ?_) (fun h4 => ?_)
        · rw [h4]; (try simp only [decide_eq_true_eq, decide_eq_false_iff_not, Bool.not_eq_true', Bool.not_eq_false', Int.not_lt, Int.not_le, Bool.not_true, Bool.not_false, Int.toNat_natCast, bne_iff_ne, beq_iff_eq, beq_eq_false_iff_ne, ne_eq, Decidable.not_not] at h4)
          refine stG rfl rfl rfl rfl rfl rfl (op_fieldAddrO (fo := 6) rfl Tryd.underlying28 rfl rfl Tryd.sizeOf25 (by decide) rfl trivial) ?_
          refine stG rfl rfl rfl rfl rfl rfl (op_load1 rfl Tryd.isAgg25 (by first | exact ldv_own rfl rfl | exact ldv_pp rfl | exact ldv_old (by assumption) rfl | exact ldv_ptr (by assumption) rfl)) ?_
          refine stG rfl rfl rfl rfl rfl rfl (op_fieldAddrO (fo := 6) rfl Tryd.underlying28 rfl rfl Tryd.sizeOf25 (by decide) rfl trivial) ?_
          refine stG rfl rfl rfl rfl rfl rfl (op_load1 rfl Tryd.isAgg25 (by first | exact ldv_own rfl rfl | exact ldv_pp rfl | exact ldv_old (by assumption) rfl | exact ldv_ptr (by assumption) rfl)) ?_
          refine stG rfl rfl rfl rfl rfl rfl (op_callF rfl rfl rfl Tryd.func35 rfl rfl (equalV_c 15 _ Tryd.func15 rfl rfl x.l y.l _ hb3 hc3 (fun i u w hu hw σ => ih u w σ (by have := lsize_mem hu; omega) (lb_get hb5 hu) (lb_get hc5 hw)))) ?_
          refine st rfl rfl rfl (op_pickTO rfl rfl rfl) ?_
          refine st rfl rfl rfl (op_moveO rfl rfl) ?_
          refine AOps_split 38 rfl (fun h5 => ?_) (fun h5 => ?_)
          · rw [h5]; (try simp only [decide_eq_true_eq, decide_eq_false_iff_not, Bool.not_eq_true', Bool.not_eq_false', Int.not_lt, Int.not_le, Bool.not_true, Bool.not_false, Int.toNat_natCast, bne_iff_ne, beq_iff_eq, beq_eq_false_iff_ne, ne_eq, Decidable.not_not] at h5)
            refine stG rfl rfl rfl rfl rfl rfl (op_fieldAddrO (fo := 7) rfl Tryd.underlying28 rfl rfl Tryd.sizeOf26 (by decide) rfl trivial) ?_
            refine stG rfl rfl rfl rfl rfl rfl (op_load1 rfl Tryd.isAgg26 (by first | exact ldv_own rfl rfl | exact ldv_pp rfl | exact ldv_old (by assumption) rfl | exact ldv_ptr (by assumption) rfl)) ?_
            refine stG rfl rfl rfl rfl rfl rfl (op_fieldAddrO (fo := 7) rfl Tryd.underlying28 rfl rfl Tryd.sizeOf26 (by decide) rfl trivial) ?_
            refine stG rfl rfl rfl rfl rfl rfl (op_load1 rfl Tryd.isAgg26 (by first | exact ldv_own rfl rfl | exact ldv_pp rfl | exact ldv_old (by assumption) rfl | exact ldv_ptr (by assumption) rfl)) ?_
            refine stG rfl rfl rfl rfl rfl rfl (op_callF rfl rfl rfl Tryd.func36 rfl rfl (equalM_c 37 _ Tryd.func37 rfl rfl x.m y.m _ hb4 hc4 (fun i u w hu hw σ => sameFn_c u w σ (fun σ => ih u.2 w.2 σ (by have := msize_mem hu; omega) (mb_get hb6 hu).2 (mb_get hc6 hw).2)))) ?_
            refine st rfl rfl rfl (op_pickTO rfl rfl rfl) ?_
            refine st rfl rfl rfl (op_assignO rfl rfl) ?_
            refine AOps_nil ?_
            refine AWp_ret ?_
            (try simp only [blockQ, thenQ])
            refine ResQ_1 rfl hcl trivial (Ret_of ?_)
            refine bool_of ?_
            rw [jv_ext]
            simp_all [pb_iff, pb_niff]
          · rw [h5]; (try simp only [decide_eq_true_eq, decide_eq_false_iff_not, Bool.not_eq_true', Bool.not_eq_false', Int.not_lt, Int.not_le, Bool.not_true, Bool.not_false, Int.toNat_natCast, bne_iff_ne, beq_iff_eq, beq_eq_false_iff_ne, ne_eq, Decidable.not_not] at h5)
            refine stS rfl rfl rfl (.inl rfl) rfl rfl ?_
            refine stS rfl rfl rfl (.inl rfl) rfl rfl ?_
            refine stS rfl rfl rfl (.inl rfl) rfl rfl ?_
            refine stS rfl rfl rfl (.inl rfl) rfl rfl ?_
            refine stS rfl rfl rfl (.inl rfl) rfl rfl ?_
            refine st rfl rfl rfl (op_pickFO rfl rfl rfl) ?_
            refine st rfl rfl rfl (op_assignO rfl rfl) ?_
            refine AOps_nil ?_
            refine AWp_ret ?_
            (try simp only [blockQ, thenQ])
            refine ResQ_1 rfl hcl trivial (Ret_of ?_)
            refine bool_of ?_
            rw [jv_ext]
            simp_all [pb_iff, pb_niff]
        · rw [h4]; (try simp only [decide_eq_true_eq, decide_eq_false_iff_not, Bool.not_eq_true', Bool.not_eq_false', Int.not_lt, Int.not_le, Bool.not_true, Bool.not_false, Int.toNat_natCast, bne_iff_ne, beq_iff_eq, beq_eq_false_iff_ne, ne_eq, Decidable.not_not] at h4)
          refine stS rfl rfl rfl (.inl rfl) rfl rfl ?_
          refine stS rfl rfl rfl (.inl rfl) rfl rfl ?_
          refine stS rfl rfl rfl (.inl rfl) rfl rfl ?_
          refine stS rfl rfl rfl (.inl rfl) rfl rfl ?_
          refine stS rfl rfl rfl (.inl rfl) rfl rfl ?_
          refine st rfl rfl rfl (op_pickFO rfl rfl rfl) ?_
          refine st rfl rfl rfl (op_moveO rfl rfl) ?_
          refine stS rfl rfl rfl (.inl rfl) rfl rfl ?_
          refine stS rfl rfl rfl (.inl rfl) rfl rfl ?_
          refine stS rfl rfl rfl (.inl rfl) rfl rfl ?_
          refine stS rfl rfl rfl (.inl rfl) rfl rfl ?_
          refine stS rfl rfl rfl (.inl rfl) rfl rfl ?_
          refine st rfl rfl rfl (op_pickFO rfl rfl rfl) ?_
          refine st rfl rfl rfl (op_assignO rfl rfl) ?_
          refine AOps_nil ?_
          refine AWp_ret ?_
          (try simp only [blockQ, thenQ])
          refine ResQ_1 rfl hcl trivial (Ret_of ?_)
          refine bool_of ?_
          rw [jv_ext]
          simp_all [pb_iff, pb_niff]
      · rw [h3]; (try simp only [decide_eq_true_eq, decide_eq_false_iff_not, Bool.not_eq_true', Bool.not_eq_false', Int.not_lt, Int.not_le, Bool.not_true, Bool.not_false, Int.toNat_natCast, bne_iff_ne, beq_iff_eq, beq_eq_false_iff_ne, ne_eq, Decidable.not_not] at h3)
        refine stS rfl rfl rfl (.inl rfl) rfl rfl ?_
        refine stS rfl rfl rfl (.inl rfl) rfl rfl ?_
        refine stS rfl rfl rfl (.inl rfl) rfl rfl ?_
        refine stS rfl rfl rfl (.inl rfl) rfl rfl ?_
        refine stS rfl rfl rfl (.inl rfl) rfl rfl ?_
        refine st rfl rfl rfl (op_pickFO rfl rfl rfl) ?_
        refine st rfl rfl rfl (op_moveO rfl rfl) ?_
        refine stS rfl rfl rfl (.inl rfl) rfl rfl ?_
        refine stS rfl rfl rfl (.inl rfl) rfl rfl ?_
        refine stS rfl rfl rfl (.inl rfl) rfl rfl ?_
        refine stS rfl rfl rfl (.inl rfl) rfl rfl ?_
        refine stS rfl rfl rfl (.inl rfl) rfl rfl ?_
        refine st rfl rfl rfl (op_pickFO rfl rfl rfl) ?_
        refine st rfl rfl rfl (op_moveO rfl rfl) ?_
        refine stS rfl rfl rfl (.inl rfl) rfl rfl ?_
        refine stS rfl rfl rfl (.inl rfl) rfl rfl ?_
        refine stS rfl rfl rfl (.inl rfl) rfl rfl ?_
        refine stS rfl rfl rfl (.inl rfl) rfl rfl ?_
        refine stS rfl rfl rfl (.inl rfl) rfl rfl ?_
        refine st rfl rfl rfl (op_pickFO rfl rfl rfl) ?_
        refine st rfl rfl rfl (op_assignO rfl rfl) ?_
        refine AOps_nil ?_
        refine AWp_ret ?_
        (try simp only [blockQ, thenQ])
        refine ResQ_1 rfl hcl trivial (Ret_of ?_)
        refine bool_of ?_
        rw [jv_ext]
        simp_all [pb_iff, pb_niff]
    · rw [h2]; (try simp only [decide_eq_true_eq, decide_eq_false_iff_not, Bool.not_eq_true', Bool.not_eq_false', Int.not_lt, Int.not_le, Bool.not_true, Bool.not_false, Int.toNat_natCast, bne_iff_ne, beq_iff_eq, beq_eq_false_iff_ne, ne_eq, Decidable.not_not] at h2)
      refine stS rfl rfl rfl (.inl rfl) rfl rfl ?_
      refine stS rfl rfl rfl (.inl rfl) rfl rfl ?_
      refine stS rfl rfl rfl (.inl rfl) rfl rfl ?_
      refine stS rfl rfl rfl (.inl rfl) rfl rfl ?_
      refine stS rfl rfl rfl (.inl rfl) rfl rfl ?_
      refine st rfl rfl rfl (op_pickFO rfl rfl rfl) ?_
      refine st rfl rfl rfl (op_moveO rfl rfl) ?_
      refine stS rfl rfl rfl (.inl rfl) rfl rfl ?_
      refine stS rfl rfl rfl (.inl rfl) rfl rfl ?_
      refine stS rfl rfl rfl (.inl rfl) rfl rfl ?_
      refine stS rfl rfl rfl (.inl rfl) rfl rfl ?_
      refine stS rfl rfl rfl (.inl rfl) rfl rfl ?_
      refine st rfl rfl rfl (op_pickFO rfl rfl rfl) ?_
      refine st rfl rfl rfl (op_moveO rfl rfl) ?_
      refine stS rfl rfl rfl (.inl rfl) rfl rfl ?_
      refine stS rfl rfl rfl (.inl rfl) rfl rfl ?_
      refine stS rfl rfl rfl (.inl rfl) rfl rfl ?_
      refine stS rfl rfl rfl (.inl rfl) rfl rfl ?_
      refine stS rfl rfl rfl (.inl rfl) rfl rfl ?_
      refine st rfl rfl rfl (op_pickFO rfl rfl rfl) ?_
      refine st rfl rfl rfl (op_moveO rfl rfl) ?_
      refine stS rfl rfl rfl (.inl rfl) rfl rfl ?_
      refine stS rfl rfl rfl (.inl rfl) rfl rfl ?_
      refine stS rfl rfl rfl (.inl rfl) rfl rfl ?_
      refine stS rfl rfl rfl (.inl rfl) rfl rfl ?_
      refine stS rfl rfl rfl (.inl rfl) rfl rfl ?_
      refine st rfl rfl rfl (op_pickFO rfl rfl rfl) ?_
      refine st rfl rfl rfl (op_assignO rfl rfl) ?_
      refine AOps_nil ?_
      refine AWp_ret ?_
      (try simp only [blockQ, thenQ])
      refine ResQ_1 rfl hcl trivial (Ret_of ?_)
      refine bool_of ?_
      rw [jv_ext]
      simp_all [pb_iff, pb_niff]
  · rw [h1]; (try simp only [decide_eq_true_eq, decide_eq_false_iff_not, Bool.not_eq_true', Bool.not_eq_false', Int.not_lt, Int.not_le, Bool.not_true, Bool.not_false, Int.toNat_natCast, bne_iff_ne, beq_iff_eq, beq_eq_false_iff_ne, ne_eq, Decidable.not_not] at h1)
    refine stS rfl rfl rfl (.inl rfl) rfl rfl ?_
    refine stS rfl rfl rfl (.inl rfl) rfl rfl ?_
    refine stS rfl rfl rfl (.inl rfl) rfl rfl ?_
    refine stS rfl rfl rfl (.inl rfl) rfl rfl ?_
    refine stS rfl rfl rfl (.inl rfl) rfl rfl ?_
    refine st rfl rfl rfl (op_pickFO rfl rfl rfl) ?_
    refine st rfl rfl rfl (op_moveO rfl rfl) ?_
    refine stS rfl rfl rfl (.inl rfl) rfl rfl ?_
    refine stS rfl rfl rfl (.inl rfl) rfl rfl ?_
    refine stS rfl rfl rfl (.inl rfl) rfl rfl ?_
    refine stS rfl rfl rfl (.inl rfl) rfl rfl ?_
    refine stS rfl rfl rfl (.inl rfl) rfl rfl ?_
    refine st rfl rfl rfl (op_pickFO rfl rfl rfl) ?_
    refine st rfl rfl rfl (op_moveO rfl rfl) ?_
    refine stS rfl rfl rfl (.inl rfl) rfl rfl ?_
    refine stS rfl rfl rfl (.inl rfl) rfl rfl ?_
    refine stS rfl rfl rfl (.inl rfl) rfl rfl ?_
    refine stS rfl rfl rfl (.inl rfl) rfl rfl ?_
    refine stS rfl rfl rfl (.inl rfl) rfl rfl ?_
    refine st rfl rfl rfl (op_pickFO rfl rfl rfl) ?_
    refine st rfl rfl rfl (op_moveO rfl rfl) ?_
    refine stS rfl rfl rfl (.inl rfl) rfl rfl ?_
    refine stS rfl rfl rfl (.inl rfl) rfl rfl ?_
    refine stS rfl rfl rfl (.inl rfl) rfl rfl ?_
    refine stS rfl rfl rfl (.inl rfl) rfl rfl ?_
    refine stS rfl rfl rfl (.inl rfl) rfl rfl ?_
    refine st rfl rfl rfl (op_pickFO rfl rfl rfl) ?_
    refine st rfl rfl rfl (op_moveO rfl rfl) ?_
    refine stS rfl rfl rfl (.inl rfl) rfl rfl ?_
    refine stS rfl rfl rfl (.inl rfl) rfl rfl ?_
    refine stS rfl rfl rfl (.inl rfl) rfl rfl ?_
    refine stS rfl rfl rfl (.inl rfl) rfl rfl ?_
    refine stS rfl rfl rfl (.inl rfl) rfl rfl ?_
    refine st rfl rfl rfl (op_pickFO rfl rfl rfl) ?_
    refine st rfl rfl rfl (op_assignO rfl rfl) ?_
    refine AOps_nil ?_
    refine AWp_ret ?_
    (try simp only [blockQ, thenQ])
    refine ResQ_1 rfl hcl trivial (Ret_of ?_)
    refine bool_of ?_
    rw [jv_ext]
    simp_all [pb_iff, pb_niff]

theorem depth_any (n : Nat) : ∀ (v : JV) (σ : List AO), jsize v ≤ n → n ≤ 1000000000 → ACalls Tryd.prog 18 [.agg (vcells v)] σ (Ret (.int .i64 (jdepth v)) σ) := by
  induction n with
  | zero => intro v σ h; have := jsize_pos v; omega
  | succ n ih =>
  intro v σ hn hb
  have hvs := jsize_eq v
  have hl := lsize_nn v.l
  have hm := msize_nn v.m
  have hd1 := ldep_nn v.l
  have hd2 := mdep_nn v.m
  have hde := jdepth_eq v
  have hll := llen_le v.l
  have hml := mlen_le v.m
  refine ACalls_body Tryd.func18 rfl Tryd.ntmps18 (res1 Tryd.results18) (Nat.le_of_ble_eq_true rfl) (fun hcl hal => ?_)
  rw [vcells_eq v]
  refine AWp_seq ?_
  -- region 0 value.go:64
  refine AWp_regL ?_
  refine st rfl rfl rfl (op_box0 (cs := [_, _, _, _, _, _, _, _]) rfl rfl rfl) ?_
  refine st rfl rfl rfl (op_assignO rfl rfl) ?_
  refine AOps_nil ?_
  refine AWp_seq ?_
  refine AWp_join (ι := Bool) (fun b => b = (!decide (v.kind = 4) && !decide (v.kind = 5))) (fun b => ⟨[], [(1, .ptr (σ.length + 0) 0), (15, .bool b)]⟩) (fun b => σ ++ [.box [.int .i64 v.kind, .bool v.b, .bool v.n.neg, .str v.n.digits, .int .i64 v.n.exp, .str v.s, .sl false 8 (lcells v.l), .sl false 9 (mcells v.m)]]) ?_ (fun b hj => ?_)
  · skip
    -- region 1 value.go:65
    refine AWp_regL ?_
    refine st rfl rfl rfl (op_fieldAddrO (fo := 0) rfl Tryd.underlying28 rfl rfl Tryd.sizeOf3 (by decide) rfl trivial) ?_
    refine st rfl rfl rfl (op_load1 rfl Tryd.isAgg3 (by first | exact ldv_own rfl rfl | exact ldv_pp rfl | exact ldv_old (by assumption) rfl | exact ldv_ptr (by assumption) rfl)) ?_
    refine st rfl rfl rfl (op_neq rfl rfl rfl) ?_
    refine st rfl rfl rfl (op_moveO rfl rfl) ?_
    refine AOps_split 11 rfl (fun h1 => ?_) (fun h1 => ?_)
    · rw [h1]; (try simp only [decide_eq_true_eq, decide_eq_false_iff_not, Bool.not_eq_true', Bool.not_eq_false', Int.not_lt, Int.not_le, Bool.not_true, Bool.not_false, Int.toNat_natCast, bne_iff_ne, beq_iff_eq, beq_eq_false_iff_ne, ne_eq, Decidable.not_not] at h1)
      refine stG rfl rfl rfl rfl rfl rfl (op_fieldAddrO (fo := 0) rfl Tryd.underlying28 rfl rfl Tryd.sizeOf3 (by decide) rfl trivial) ?_
      refine stG rfl rfl rfl rfl rfl rfl (op_load1 rfl Tryd.isAgg3 (by first | exact ldv_own rfl rfl | exact ldv_pp rfl | exact ldv_old (by assumption) rfl | exact ldv_ptr (by assumption) rfl)) ?_
      refine stG rfl rfl rfl rfl rfl rfl (op_neq rfl rfl rfl) ?_
      refine st rfl rfl rfl (op_pickTO rfl rfl rfl) ?_
      refine AOps_nil ?_
      refine ⟨_, ?_, ⟨rfl, rfl, rfl, trivial⟩, rfl⟩
      simp_all
    · rw [h1]; (try simp only [decide_eq_true_eq, decide_eq_false_iff_not, Bool.not_eq_true', Bool.not_eq_false', Int.not_lt, Int.not_le, Bool.not_true, Bool.not_false, Int.toNat_natCast, bne_iff_ne, beq_iff_eq, beq_eq_false_iff_ne, ne_eq, Decidable.not_not] at h1)
      refine stS rfl rfl rfl (.inl rfl) rfl rfl ?_
      refine stS rfl rfl rfl (.inl rfl) rfl rfl ?_
      refine stS rfl rfl rfl (.inl rfl) rfl rfl ?_
      refine st rfl rfl rfl (op_pickFO rfl rfl rfl) ?_
      refine AOps_nil ?_
      refine ⟨_, ?_, ⟨rfl, rfl, rfl, trivial⟩, rfl⟩
      simp_all
  · skip
    refine AWp_cond rfl (fun h2 => ?_) (fun h2 => ?_)
    · (try rw [h2]); (try simp only [decide_eq_true_eq, decide_eq_false_iff_not, Bool.not_eq_true', Bool.not_eq_false', Int.not_lt, Int.not_le, Bool.not_true, Bool.not_false, Int.toNat_natCast, bne_iff_ne, beq_iff_eq, beq_eq_false_iff_ne, ne_eq, Decidable.not_not] at h2)
      refine AWp_seq ?_
      -- region 2 value.go:66
      refine AWp_regL ?_
      refine st rfl rfl rfl (op_assignO rfl rfl) ?_
      refine AOps_nil ?_
      refine AWp_ret ?_
      (try simp only [blockQ, thenQ])
      refine ResQ_1 rfl hcl trivial (Ret_of ?_)
      rw [h2] at hj; congr 1; rw [hde, if_neg (by simp at hj; omega)]
    · (try rw [h2]); (try simp only [decide_eq_true_eq, decide_eq_false_iff_not, Bool.not_eq_true', Bool.not_eq_false', Int.not_lt, Int.not_le, Bool.not_true, Bool.not_false, Int.toNat_natCast, bne_iff_ne, beq_iff_eq, beq_eq_false_iff_ne, ne_eq, Decidable.not_not] at h2)
      refine AWp_skip ?_
      refine AWp_seq ?_
      -- region 3 value.go:68
      refine AWp_regL ?_
      refine st rfl rfl rfl (op_assignO rfl rfl) ?_
      refine AOps_nil ?_
      refine AWp_seq ?_
      refine AWp_seq ?_
      -- region 4 value.go:69
      refine AWp_regL ?_
      refine st rfl rfl rfl (op_fieldAddrO (fo := 6) rfl Tryd.underlying28 rfl rfl Tryd.sizeOf25 (by decide) rfl trivial) ?_
      refine st rfl rfl rfl (op_load1 rfl Tryd.isAgg25 (by first | exact ldv_own rfl rfl | exact ldv_pp rfl | exact ldv_old (by assumption) rfl | exact ldv_ptr (by assumption) rfl)) ?_
      refine st rfl rfl rfl (op_lenS rfl rfl Tryd.underlying25 rfl rfl trivial) ?_
      refine st rfl rfl rfl (op_moveO rfl rfl) ?_
      refine AOps_nil ?_
      refine AWp_block ?_
      -- loop 0 LIVE 1:box 2:assign 3:assign 17:load 18:call 19:move
      refine AWp_loop (ι := Nat) (fun i => i ≤ v.l.length) (fun i => ⟨[], [(1, .ptr (σ.length + 0) 0), (3, .int .i64 (ldep (v.l.take i))), (17, .sl false 8 (lcells v.l)), (18, .int .i64 (v.l.length : Int)), (19, .int .i64 (i : Int))]⟩) (fun i => σ ++ [_]) (fun i => v.l.length - i) (0) (Nat.zero_le _) ?_ rfl (fun i hi => ?_)
      · refine ⟨rfl, rfl, rfl, rfl, ?_, rfl, trivial⟩
        rw [← lcells_length]; rfl
      refine AWp_seq ?_
      -- region 5 value.go:69
      refine AWp_regL ?_
      refine st rfl rfl rfl (op_lss rfl rfl rfl) ?_
      refine AOps_nil ?_
      refine AWp_seq ?_
      refine AWp_cond rfl (fun h3 => ?_) (fun h3 => ?_)
      · (try rw [h3]); (try simp only [decide_eq_true_eq, decide_eq_false_iff_not, Bool.not_eq_true', Bool.not_eq_false', Int.not_lt, Int.not_le, Bool.not_true, Bool.not_false, Int.toNat_natCast, bne_iff_ne, beq_iff_eq, beq_eq_false_iff_ne, ne_eq, Decidable.not_not] at h3)
        obtain ⟨x, hx⟩ : ∃ x, v.l[i]? = some x := ⟨_, List.getElem?_eq_getElem (show i < v.l.length by omega)⟩
        have hlm := lsize_mem hx
        refine AWp_skip ?_
        refine AWp_seq ?_
        refine AWp_block ?_
        refine AWp_seq ?_
        -- region 6 value.go:69
        refine AWp_regL ?_
        refine st rfl rfl rfl ((by first | exact op_indexAddr rfl Tryd.underlying25 Tryd.sizeOf28 rfl rfl (by omega) (by first | exact lcells_get (by assumption) | exact mcells_get (by assumption) | exact brows_at (by omega) | assumption) | fail)) ?_
        rw [vcells_eq x]
        refine st rfl rfl rfl (op_loadK (cs := [_, _, _, _, _, _, _, _]) rfl Tryd.isAgg28 Tryd.sizeOf28 (by first | exact ldv_own rfl rfl | exact ldv_pp rfl | exact ldv_old (by assumption) rfl | exact ldv_ptr (by assumption) rfl)) ?_
        refine st rfl rfl rfl (op_allocO (cs := [_, _, _, _, _, _, _, _]) 1 rfl rfl Tryd.zeroValue28 rfl) ?_
        refine stN rfl rfl ((by first | exact op_storeO (r := [_, _, _, _, _, _, _, _]) rfl Tryd.sizeOf28 rfl rfl rfl rfl rfl (by decide) | exact op_storeP (r := [_, _, _, _, _, _, _, _]) rfl Tryd.sizeOf28 rfl rfl rfl (by assumption) rfl (by decide))) ?_
        refine AOps_nil ?_
        -- region 7 value.go:70
        refine AWp_regL ?_
        refine st rfl rfl rfl (op_moveO rfl rfl) ?_
        refine st rfl rfl rfl (op_loadK (cs := [_, _, _, _, _, _, _, _]) rfl Tryd.isAgg28 Tryd.sizeOf28 (by first | exact ldv_own rfl rfl | exact ldv_pp rfl | exact ldv_old (by assumption) rfl | exact ldv_ptr (by assumption) rfl)) ?_
        refine st rfl rfl rfl (op_callF rfl rfl rfl Tryd.func18 rfl rfl (AC1 (vcells_eq x) (ih x _ (by omega) (by omega)))) ?_
        refine st rfl rfl rfl (op_max2 rfl rfl rfl) ?_
        refine st rfl rfl rfl (op_assignO rfl rfl) ?_
        refine AOps_nil ?_
        -- region 8 value.go:69
        refine AWp_regL ?_
        refine st rfl rfl rfl (op_add64 rfl rfl rfl (by omega) (by omega)) ?_
        refine st rfl rfl rfl (op_moveO rfl rfl) ?_
        refine AOps_nil ?_
        refine ⟨i + 1, σ.length + 1, by omega, by omega, by simp, ⟨rfl, rfl, ?_, rfl, rfl, rfl, trivial⟩, closed_own 1 hcl ?_, ?_, take_own 1⟩
        · rw [ldep_take v.l i x hx]; rfl
        · simp [ownLt, AO.cells, AV.ltL, AV.lt]
        · simp [ltE, AV.lt]
      · (try rw [h3]); (try simp only [decide_eq_true_eq, decide_eq_false_iff_not, Bool.not_eq_true', Bool.not_eq_false', Int.not_lt, Int.not_le, Bool.not_true, Bool.not_false, Int.toNat_natCast, bne_iff_ne, beq_iff_eq, beq_eq_false_iff_ne, ne_eq, Decidable.not_not] at h3)
        have hie : v.l.take i = v.l := by rw [show i = v.l.length by omega]; exact List.take_length
        rw [hie]
        refine AWp_exit ?_
        refine AWp_seq ?_
        refine AWp_seq ?_
        -- region 9 value.go:72
        refine AWp_regL ?_
        refine st rfl rfl rfl (op_fieldAddrO (fo := 7) rfl Tryd.underlying28 rfl rfl Tryd.sizeOf26 (by decide) rfl trivial) ?_
        refine st rfl rfl rfl (op_load1 rfl Tryd.isAgg26 (by first | exact ldv_own rfl rfl | exact ldv_pp rfl | exact ldv_old (by assumption) rfl | exact ldv_ptr (by assumption) rfl)) ?_
        refine st rfl rfl rfl (op_lenS rfl rfl Tryd.underlying26 rfl rfl trivial) ?_
        refine st rfl rfl rfl (op_moveO rfl rfl) ?_
        refine AOps_nil ?_
        refine AWp_block ?_
        -- loop 1 LIVE 2:assign 3:assign 29:load 30:call 31:move
        refine AWp_loop (ι := Nat) (fun i => i ≤ v.m.length) (fun i => ⟨[], [(1, .ptr (σ.length + 0) 0), (3, .int .i64 (max (ldep v.l) (mdep (v.m.take i)))), (29, .sl false 9 (mcells v.m)), (30, .int .i64 (v.m.length : Int)), (31, .int .i64 (i : Int))]⟩) (fun i => σ ++ [_]) (fun i => v.m.length - i) (0) (Nat.zero_le _) ?_ rfl (fun i hi => ?_)
        · refine ⟨rfl, rfl, ?_, rfl, ?_, rfl, trivial⟩
          · rw [show max (ldep v.l) (mdep (v.m.take 0)) = ldep v.l by simp only [List.take_zero, mdep]; omega]; rfl
          · rw [← mcells_length]; rfl
        refine AWp_seq ?_
        -- region 10 value.go:72
        refine AWp_regL ?_
        refine st rfl rfl rfl (op_lss rfl rfl rfl) ?_
        refine AOps_nil ?_
        refine AWp_seq ?_
        refine AWp_cond rfl (fun h4 => ?_) (fun h4 => ?_)
        · (try rw [h4]); (try simp only [decide_eq_true_eq, decide_eq_false_iff_not, Bool.not_eq_true', Bool.not_eq_false', Int.not_lt, Int.not_le, Bool.not_true, Bool.not_false, Int.toNat_natCast, bne_iff_ne, beq_iff_eq, beq_eq_false_iff_ne, ne_eq, Decidable.not_not] at h4)
          obtain ⟨q, hq⟩ : ∃ q, v.m[i]? = some q := ⟨_, List.getElem?_eq_getElem (show i < v.m.length by omega)⟩
          have hms := msize_mem hq
          refine AWp_skip ?_
          refine AWp_seq ?_
          refine AWp_block ?_
          refine AWp_seq ?_
          -- region 11 value.go:72
          refine AWp_regL ?_
          refine st rfl rfl rfl ((by first | exact op_indexAddr rfl Tryd.underlying26 Tryd.sizeOf30 rfl rfl (by omega) (by first | exact lcells_get (by assumption) | exact mcells_get (by assumption) | exact brows_at (by omega) | assumption) | fail)) ?_
          rw [vcells_eq q.2]
          refine st rfl rfl rfl (op_loadK (cs := [_, _, _, _, _, _, _, _, _]) rfl Tryd.isAgg30 Tryd.sizeOf30 (by first | exact ldv_own rfl rfl | exact ldv_pp rfl | exact ldv_old (by assumption) rfl | exact ldv_ptr (by assumption) rfl)) ?_
          refine st rfl rfl rfl (op_allocO (cs := [_, _, _, _, _, _, _, _, _]) 1 rfl rfl Tryd.zeroValue30 rfl) ?_
          refine stN rfl rfl ((by first | exact op_storeO (r := [_, _, _, _, _, _, _, _, _]) rfl Tryd.sizeOf30 rfl rfl rfl rfl rfl (by decide) | exact op_storeP (r := [_, _, _, _, _, _, _, _, _]) rfl Tryd.sizeOf30 rfl rfl rfl (by assumption) rfl (by decide))) ?_
          refine AOps_nil ?_
          -- region 12 value.go:73
          refine AWp_regL ?_
          refine st rfl rfl rfl (op_moveO rfl rfl) ?_
          refine st rfl rfl rfl (op_fieldAddrO (fo := 1) rfl Tryd.underlying30 rfl rfl Tryd.sizeOf28 (by decide) rfl trivial) ?_
          refine st rfl rfl rfl (op_loadK (cs := [_, _, _, _, _, _, _, _]) rfl Tryd.isAgg28 Tryd.sizeOf28 (by first | exact ldv_own rfl rfl | exact ldv_pp rfl | exact ldv_old (by assumption) rfl | exact ldv_ptr (by assumption) rfl)) ?_
          refine st rfl rfl rfl (op_callF rfl rfl rfl Tryd.func18 rfl rfl (AC1 (vcells_eq q.2) (ih q.2 _ (by omega) (by omega)))) ?_
          refine st rfl rfl rfl (op_max2 rfl rfl rfl) ?_
          refine st rfl rfl rfl (op_assignO rfl rfl) ?_
          refine AOps_nil ?_
          -- region 13 value.go:72
          refine AWp_regL ?_
          refine st rfl rfl rfl (op_add64 rfl rfl rfl (by omega) (by omega)) ?_
          refine st rfl rfl rfl (op_moveO rfl rfl) ?_
          refine AOps_nil ?_
          refine ⟨i + 1, σ.length + 1, by omega, by omega, by simp, ⟨rfl, rfl, ?_, rfl, rfl, rfl, trivial⟩, closed_own 1 hcl ?_, ?_, take_own 1⟩
          · rw [mdep_take v.m i q hq, show ∀ a b c : Int, max a (max b c) = max (max a b) c by intros; omega]; rfl
          · simp [ownLt, AO.cells, AV.ltL, AV.lt]
          · simp [ltE, AV.lt]
        · (try rw [h4]); (try simp only [decide_eq_true_eq, decide_eq_false_iff_not, Bool.not_eq_true', Bool.not_eq_false', Int.not_lt, Int.not_le, Bool.not_true, Bool.not_false, Int.toNat_natCast, bne_iff_ne, beq_iff_eq, beq_eq_false_iff_ne, ne_eq, Decidable.not_not] at h4)
          have hie2 : v.m.take i = v.m := by rw [show i = v.m.length by omega]; exact List.take_length
          rw [hie2]
          refine AWp_exit ?_
          refine AWp_seq ?_
          -- region 14 value.go:75
          refine AWp_regL ?_
          refine st rfl rfl rfl (op_moveO rfl rfl) ?_
          refine st rfl rfl rfl (op_add64 rfl rfl rfl (by omega) (by omega)) ?_
          refine st rfl rfl rfl (op_assignO rfl rfl) ?_
          refine AOps_nil ?_
          refine AWp_ret ?_
          (try simp only [blockQ, thenQ])
          refine ResQ_1 rfl hcl trivial (Ret_of ?_)
          rw [h2] at hj; congr 1; rw [hde, if_pos (by by_cases hk : v.kind = 4 <;> simp_all)]

theorem size_any (n : Nat) : ∀ (v : JV) (σ : List AO), jsize v ≤ n → n ≤ 1000000000 → ACalls Tryd.prog 16 [.agg (vcells v)] σ (Ret (.int .i64 (jsize v)) σ) := by
  induction n with
  | zero => intro v σ h; have := jsize_pos v; omega
  | succ n ih =>
  intro v σ hn hb
  have hvs := jsize_eq v
  have hl := lsize_nn v.l
  have hm := msize_nn v.m
  have hll := llen_le v.l
  have hml := mlen_le v.m
  refine ACalls_body Tryd.func16 rfl Tryd.ntmps16 (res1 Tryd.results16) (Nat.le_of_ble_eq_true rfl) (fun hcl hal => ?_)
  rw [vcells_eq v]
  refine AWp_seq ?_
  -- region 0 value.go:52
  refine AWp_regL ?_
  refine st rfl rfl rfl (op_box0 (cs := [_, _, _, _, _, _, _, _]) rfl rfl rfl) ?_
  refine st rfl rfl rfl (op_assignO rfl rfl) ?_
  refine AOps_nil ?_
  refine AWp_seq ?_
  -- region 1 value.go:53
  refine AWp_regL ?_
  refine st rfl rfl rfl (op_assignO rfl rfl) ?_
  refine AOps_nil ?_
  refine AWp_seq ?_
  refine AWp_seq ?_
  -- region 2 value.go:54
  refine AWp_regL ?_
  refine st rfl rfl rfl (op_fieldAddrO (fo := 6) rfl Tryd.underlying28 rfl rfl Tryd.sizeOf25 (by decide) rfl trivial) ?_
  refine st rfl rfl rfl (op_load1 rfl Tryd.isAgg25 (by first | exact ldv_own rfl rfl | exact ldv_pp rfl | exact ldv_old (by assumption) rfl | exact ldv_ptr (by assumption) rfl)) ?_
  refine st rfl rfl rfl (op_lenS rfl rfl Tryd.underlying25 rfl rfl trivial) ?_
  refine st rfl rfl rfl (op_moveO rfl rfl) ?_
  refine AOps_nil ?_
  refine AWp_block ?_
  -- loop 0 LIVE 1:box 2:assign 3:assign 9:load 10:call 11:move
  refine AWp_loop (ι := Nat) (fun i => i ≤ v.l.length) (fun i => ⟨[], [(1, .ptr (σ.length + 0) 0), (3, .int .i64 (1 + lsize (v.l.take i))), (9, .sl false 8 (lcells v.l)), (10, .int .i64 (v.l.length : Int)), (11, .int .i64 (i : Int))]⟩) (fun i => σ ++ [_]) (fun i => v.l.length - i) (0) (Nat.zero_le _) ?_ rfl (fun i hi => ?_)
  · refine ⟨rfl, rfl, rfl, rfl, ?_, rfl, trivial⟩
    rw [← lcells_length]; rfl
  have htl := lsize_take_le v.l i
  have htn := lsize_nn (v.l.take i)
  refine AWp_seq ?_
  -- region 3 value.go:54
  refine AWp_regL ?_
  refine st rfl rfl rfl (op_lss rfl rfl rfl) ?_
  refine AOps_nil ?_
  refine AWp_seq ?_
  refine AWp_cond rfl (fun h1 => ?_) (fun h1 => ?_)
  · (try rw [h1]); (try simp only [decide_eq_true_eq, decide_eq_false_iff_not, Bool.not_eq_true', Bool.not_eq_false', Int.not_lt, Int.not_le, Bool.not_true, Bool.not_false, Int.toNat_natCast, bne_iff_ne, beq_iff_eq, beq_eq_false_iff_ne, ne_eq, Decidable.not_not] at h1)
    obtain ⟨x, hx⟩ : ∃ x, v.l[i]? = some x := ⟨_, List.getElem?_eq_getElem (show i < v.l.length by omega)⟩
    have hlm := lsize_mem hx
    have hxp := jsize_pos x
    have hts := lsize_take v.l i x hx
    have htl1 := lsize_take_le v.l (i + 1)
    refine AWp_skip ?_
    refine AWp_seq ?_
    refine AWp_block ?_
    refine AWp_seq ?_
    -- region 4 value.go:54
    refine AWp_regL ?_
    refine st rfl rfl rfl ((by first | exact op_indexAddr rfl Tryd.underlying25 Tryd.sizeOf28 rfl rfl (by omega) (by first | exact lcells_get (by assumption) | exact mcells_get (by assumption) | exact brows_at (by omega) | assumption) | fail)) ?_
    rw [vcells_eq x]
    refine st rfl rfl rfl (op_loadK (cs := [_, _, _, _, _, _, _, _]) rfl Tryd.isAgg28 Tryd.sizeOf28 (by first | exact ldv_own rfl rfl | exact ldv_pp rfl | exact ldv_old (by assumption) rfl | exact ldv_ptr (by assumption) rfl)) ?_
    refine st rfl rfl rfl (op_allocO (cs := [_, _, _, _, _, _, _, _]) 1 rfl rfl Tryd.zeroValue28 rfl) ?_
    refine stN rfl rfl ((by first | exact op_storeO (r := [_, _, _, _, _, _, _, _]) rfl Tryd.sizeOf28 rfl rfl rfl rfl rfl (by decide) | exact op_storeP (r := [_, _, _, _, _, _, _, _]) rfl Tryd.sizeOf28 rfl rfl rfl (by assumption) rfl (by decide))) ?_
    refine AOps_nil ?_
    -- region 5 value.go:55
    refine AWp_regL ?_
    refine st rfl rfl rfl (op_moveO rfl rfl) ?_
    refine st rfl rfl rfl (op_loadK (cs := [_, _, _, _, _, _, _, _]) rfl Tryd.isAgg28 Tryd.sizeOf28 (by first | exact ldv_own rfl rfl | exact ldv_pp rfl | exact ldv_old (by assumption) rfl | exact ldv_ptr (by assumption) rfl)) ?_
    refine st rfl rfl rfl (op_callF rfl rfl rfl Tryd.func16 rfl rfl (AC1 (vcells_eq x) (ih x _ (by omega) (by omega)))) ?_
    refine st rfl rfl rfl (op_add64 rfl rfl rfl (by omega) (by omega)) ?_
    refine st rfl rfl rfl (op_assignO rfl rfl) ?_
    refine AOps_nil ?_
    -- region 6 value.go:54
    refine AWp_regL ?_
    refine st rfl rfl rfl (op_add64 rfl rfl rfl (by omega) (by omega)) ?_
    refine st rfl rfl rfl (op_moveO rfl rfl) ?_
    refine AOps_nil ?_
    refine ⟨i + 1, σ.length + 1, by omega, by omega, by simp, ⟨rfl, rfl, ?_, rfl, rfl, rfl, trivial⟩, closed_own 1 hcl ?_, ?_, take_own 1⟩
    · rw [lsize_take v.l i x hx, ← Int.add_assoc]; rfl
    · simp [ownLt, AO.cells, AV.ltL, AV.lt]
    · simp [ltE, AV.lt]
  · (try rw [h1]); (try simp only [decide_eq_true_eq, decide_eq_false_iff_not, Bool.not_eq_true', Bool.not_eq_false', Int.not_lt, Int.not_le, Bool.not_true, Bool.not_false, Int.toNat_natCast, bne_iff_ne, beq_iff_eq, beq_eq_false_iff_ne, ne_eq, Decidable.not_not] at h1)
    have hie : v.l.take i = v.l := by rw [show i = v.l.length by omega]; exact List.take_length
    rw [hie]
    refine AWp_exit ?_
    refine AWp_seq ?_
    refine AWp_seq ?_
    -- region 7 value.go:57
    refine AWp_regL ?_
    refine st rfl rfl rfl (op_fieldAddrO (fo := 7) rfl Tryd.underlying28 rfl rfl Tryd.sizeOf26 (by decide) rfl trivial) ?_
    refine st rfl rfl rfl (op_load1 rfl Tryd.isAgg26 (by first | exact ldv_own rfl rfl | exact ldv_pp rfl | exact ldv_old (by assumption) rfl | exact ldv_ptr (by assumption) rfl)) ?_
    refine st rfl rfl rfl (op_lenS rfl rfl Tryd.underlying26 rfl rfl trivial) ?_
    refine st rfl rfl rfl (op_moveO rfl rfl) ?_
    refine AOps_nil ?_
    refine AWp_block ?_
    -- loop 1 LIVE 2:assign 3:assign 21:load 22:call 23:move
    refine AWp_loop (ι := Nat) (fun i => i ≤ v.m.length) (fun i => ⟨[], [(1, .ptr (σ.length + 0) 0), (3, .int .i64 (1 + lsize v.l + msize (v.m.take i))), (21, .sl false 9 (mcells v.m)), (22, .int .i64 (v.m.length : Int)), (23, .int .i64 (i : Int))]⟩) (fun i => σ ++ [_]) (fun i => v.m.length - i) (0) (Nat.zero_le _) ?_ rfl (fun i hi => ?_)
    · refine ⟨rfl, rfl, ?_, rfl, ?_, rfl, trivial⟩
      · simp [msize]; rfl
      · rw [← mcells_length]; rfl
    have htl2 := msize_take_le v.m i
    have htn2 := msize_nn (v.m.take i)
    refine AWp_seq ?_
    -- region 8 value.go:57
    refine AWp_regL ?_
    refine st rfl rfl rfl (op_lss rfl rfl rfl) ?_
    refine AOps_nil ?_
    refine AWp_seq ?_
    refine AWp_cond rfl (fun h2 => ?_) (fun h2 => ?_)
    · (try rw [h2]); (try simp only [decide_eq_true_eq, decide_eq_false_iff_not, Bool.not_eq_true', Bool.not_eq_false', Int.not_lt, Int.not_le, Bool.not_true, Bool.not_false, Int.toNat_natCast, bne_iff_ne, beq_iff_eq, beq_eq_false_iff_ne, ne_eq, Decidable.not_not] at h2)
      obtain ⟨q, hq⟩ : ∃ q, v.m[i]? = some q := ⟨_, List.getElem?_eq_getElem (show i < v.m.length by omega)⟩
      have hms := msize_mem hq
      have hqp := jsize_pos q.2
      have hts2 := msize_take v.m i q hq
      have htl3 := msize_take_le v.m (i + 1)
      refine AWp_skip ?_
      refine AWp_seq ?_
      refine AWp_block ?_
      refine AWp_seq ?_
      -- region 9 value.go:57
      refine AWp_regL ?_
      refine st rfl rfl rfl ((by first | exact op_indexAddr rfl Tryd.underlying26 Tryd.sizeOf30 rfl rfl (by omega) (by first | exact lcells_get (by assumption) | exact mcells_get (by assumption) | exact brows_at (by omega) | assumption) | fail)) ?_
      rw [vcells_eq q.2]
      refine st rfl rfl rfl (op_loadK (cs := [_, _, _, _, _, _, _, _, _]) rfl Tryd.isAgg30 Tryd.sizeOf30 (by first | exact ldv_own rfl rfl | exact ldv_pp rfl | exact ldv_old (by assumption) rfl | exact ldv_ptr (by assumption) rfl)) ?_
      refine st rfl rfl rfl (op_allocO (cs := [_, _, _, _, _, _, _, _, _]) 1 rfl rfl Tryd.zeroValue30 rfl) ?_
      refine stN rfl rfl ((by first | exact op_storeO (r := [_, _, _, _, _, _, _, _, _]) rfl Tryd.sizeOf30 rfl rfl rfl rfl rfl (by decide) | exact op_storeP (r := [_, _, _, _, _, _, _, _, _]) rfl Tryd.sizeOf30 rfl rfl rfl (by assumption) rfl (by decide))) ?_
      refine AOps_nil ?_
      -- region 10 value.go:58
      refine AWp_regL ?_
      refine st rfl rfl rfl (op_moveO rfl rfl) ?_
      refine st rfl rfl rfl (op_fieldAddrO (fo := 1) rfl Tryd.underlying30 rfl rfl Tryd.sizeOf28 (by decide) rfl trivial) ?_
      refine st rfl rfl rfl (op_loadK (cs := [_, _, _, _, _, _, _, _]) rfl Tryd.isAgg28 Tryd.sizeOf28 (by first | exact ldv_own rfl rfl | exact ldv_pp rfl | exact ldv_old (by assumption) rfl | exact ldv_ptr (by assumption) rfl)) ?_
      refine st rfl rfl rfl (op_callF rfl rfl rfl Tryd.func16 rfl rfl (AC1 (vcells_eq q.2) (ih q.2 _ (by omega) (by omega)))) ?_
      refine st rfl rfl rfl (op_add64 rfl rfl rfl (by omega) (by omega)) ?_
      refine st rfl rfl rfl (op_assignO rfl rfl) ?_
      refine AOps_nil ?_
      -- region 11 value.go:57
      refine AWp_regL ?_
      refine st rfl rfl rfl (op_add64 rfl rfl rfl (by omega) (by omega)) ?_
      refine st rfl rfl rfl (op_moveO rfl rfl) ?_
      refine AOps_nil ?_
      refine ⟨i + 1, σ.length + 1, by omega, by omega, by simp, ⟨rfl, rfl, ?_, rfl, rfl, rfl, trivial⟩, closed_own 1 hcl ?_, ?_, take_own 1⟩
      · rw [msize_take v.m i q hq, ← Int.add_assoc]; rfl
      · simp [ownLt, AO.cells, AV.ltL, AV.lt]
      · simp [ltE, AV.lt]
    · (try rw [h2]); (try simp only [decide_eq_true_eq, decide_eq_false_iff_not, Bool.not_eq_true', Bool.not_eq_false', Int.not_lt, Int.not_le, Bool.not_true, Bool.not_false, Int.toNat_natCast, bne_iff_ne, beq_iff_eq, beq_eq_false_iff_ne, ne_eq, Decidable.not_not] at h2)
      have hie2 : v.m.take i = v.m := by rw [show i = v.m.length by omega]; exact List.take_length
      rw [hie2]
      refine AWp_exit ?_
      refine AWp_seq ?_
      -- region 12 value.go:60
      refine AWp_regL ?_
      refine st rfl rfl rfl (op_moveO rfl rfl) ?_
      refine st rfl rfl rfl (op_assignO rfl rfl) ?_
      refine AOps_nil ?_
      refine AWp_ret ?_
      (try simp only [blockQ, thenQ])
      refine ResQ_1 rfl hcl trivial (Ret_of ?_)
      congr 1; omega

end Lg
namespace Lg
open Go

variable [GLay]
/-! ### Values that a law makes -/
def vz : JV := .mk 0 false {} ⟨#[]⟩ [] []
def v4 : JV := .mk 4 false {} ⟨#[]⟩ [] []
def v6 : JV := .mk 6 false {} ⟨#[]⟩ [] []
theorem AVleL.append {a a' b b' : List AV} (h : AVleL a a') (k : AVleL b b') : AVleL (a ++ b) (a' ++ b') := by
  induction a generalizing a' with
  | nil => cases a' with
    | nil => exact k
    | cons => exact h.elim
  | cons x a ih => cases a' with
    | nil => exact h.elim
    | cons y a' => exact ⟨h.1, ih h.2⟩
theorem AVleL.flat1 {a a' : List AV} (h : AVleL a a') : AVleL [a].flatten [a'].flatten := by
  simpa using h
theorem AVleL.flat2 {a a' b b' : List AV} (h : AVleL a a') (k : AVleL b b') : AVleL [a, b].flatten [a', b'].flatten := by
  simpa using h.append k
theorem vle8 {k x : Int} {b ng : Bool} {d s : ByteArray} {L M : AV} {l : List JV} {m : List (ByteArray × JV)} (hL : AVle L (.sl false 8 (lcells l))) (hM : AVle M (.sl false 9 (mcells m))) :
    AVleL [.int .i64 k, .bool b, .bool ng, .str d, .int .i64 x, .str s, L, M] (vcells (.mk k b ⟨ng, d, x⟩ s l m)) := by
  rw [vcells_eq]
  exact ⟨AVle.refl _, AVle.refl _, AVle.refl _, AVle.refl _, AVle.refl _, AVle.refl _, hL, hM, trivial⟩
theorem nilL : AVle .nils (.sl false 8 (lcells [])) := by simpa [lcells] using AVle.nils false 8
theorem nilM : AVle .nils (.sl false 9 (mcells [])) := by simpa [mcells] using AVle.nils false 9
theorem vlen (v : JV) : (vcells v).length = 8 := by rw [vcells_eq]; rfl
theorem sl1 {a : List AV} {v : JV} (h : AVleL a (vcells v)) : AVle (.sl true 8 [a]) (.sl false 8 (lcells [v])) := by
  refine (AVle.full 8 [a]).trans (AVle.sl ?_ ?_ ?_)
  · simpa [lcells] using h
  · simp [lcells]
  · intro r hr; simp [lcells] at hr; subst hr; exact vlen _
theorem sl2 {a b : List AV} {v u : JV} (h : AVleL a (vcells v)) (k : AVleL b (vcells u)) : AVle (.sl true 8 [a, b]) (.sl false 8 (lcells [v, u])) := by
  refine (AVle.full 8 [a, b]).trans (AVle.sl ?_ ?_ ?_)
  · simpa [lcells] using h.append k
  · simp [lcells]
  · intro r hr; simp [lcells] at hr; rcases hr with rfl | rfl <;> exact vlen _
theorem ml2 {a b : List AV} {x y : ByteArray} {v u : JV} (h : AVleL a (vcells v)) (k : AVleL b (vcells u)) : AVle (.sl true 9 [.str x :: a, .str y :: b]) (.sl false 9 (mcells [(x, v), (y, u)])) := by
  refine (AVle.full 9 _).trans (AVle.sl ?_ ?_ ?_)
  · have : AVleL (.str x :: a ++ .str y :: b) (.str x :: vcells v ++ .str y :: vcells u) := AVleL.append ⟨AVle.refl _, h⟩ ⟨AVle.refl _, k⟩
    simpa [mcells] using this
  · simp [mcells]
  · intro r hr; simp [mcells] at hr; rcases hr with rfl | rfl <;> simp [vlen]
section
variable {P : Program}
theorem AC1c {f : FuncId} {l : List AV} {v : JV} {σ : List AO} {R : Out → List AO → Prop} (e : AVleL l (vcells v)) (h : ACalls P f [.agg (vcells v)] σ R) : ACalls P f [.agg l] σ R := ACalls.conv (args' := [.agg (vcells v)]) ⟨AVle.agg e, trivial⟩ h
theorem AC2c {f : FuncId} {l r : List AV} {v u : JV} {σ : List AO} {R : Out → List AO → Prop} (e : AVleL l (vcells v)) (e' : AVleL r (vcells u)) (h : ACalls P f [.agg (vcells v), .agg (vcells u)] σ R) : ACalls P f [.agg l, .agg r] σ R := ACalls.conv (args' := [.agg (vcells v), .agg (vcells u)]) ⟨AVle.agg e, AVle.agg e', trivial⟩ h
end
theorem zmay : NumMay {} := .inl ⟨rfl, rfl, rfl⟩
theorem zutf : Utf ⟨#[]⟩ := rfl
theorem may4 : jmay v4 := (jmay_eq v4).2 ⟨⟨by decide, by decide, by decide, zmay, zutf⟩, fun j q hj => absurd hj (by simp [v4, JV.m]), fun i x hx => by simp [v4, JV.l] at hx⟩
theorem may6 : ¬ jmay v6 := fun h => by have := ((jmay_eq v6).1 h).1.2.1; simp [v6, JV.kind] at this
theorem jsize_nil (k : Int) (b : Bool) (n : JNum) (s : ByteArray) : jsize (.mk k b n s [] []) = 1 := by simp [jsize, lsize, msize]
theorem jb_nil (k : Int) (b : Bool) (n : JNum) (s : ByteArray) (h1 : n.digits.size ≤ 1000000) (h2 : s.size ≤ 1000000) : jb (.mk k b n s [] []) := by simp [jb, lb, mb, h1, h2]
theorem jdepth4 : jdepth v4 = 1 := by rw [jdepth_eq]; simp [v4, JV.kind, JV.l, JV.m, ldep, mdep]
end Lg
namespace Lg
open Go
@[simp] theorem zsize : (ByteArray.mk #[]).size = 0 := rfl
section
variable [GLay] {P : Program} {σ : List AO} {e : Env} {o : Oper}
theorem op_beqlS {T T' : TypeId} {x y : Operand} {a : Bool} (ho : o.op = .binOp .eql T x y T') (hu : P.underlying T = some .bool) (hx : opv e x = .bool a) (hy : opv e y = .bool a) : AOp P σ e o (.bool true) σ := by
  have := op_beql (P := P) (σ := σ) ho hu hx hy
  rwa [beq_self_eq_true] at this
end
end Lg
namespace Lg
open Go Go.RowKit
variable [GLay]
variable {P : Program} {N : Nat} {σ : List AO} {e : Env} {Q : QA}

/-! ### Results that stand in cells -/
/-- A result: a slot's content, one cell behind a slot, n cells behind it. -/
inductive RK where
  | t (a : Nat)
  | c1 (a : Nat)
  | ck (a n : Nat)
def rkv (σ : List AO) (e : Env) : RK → Option AV
  | .t a => some (e.look a)
  | .c1 a => match ldv σ 1 (e.look a) with
    | some [c] => some c
    | _ => none
  | .ck a n => (ldv σ n (e.look a)).map .agg
def rkvs (σ : List AO) (e : Env) : List RK → Option (List AV)
  | [] => some []
  | k :: r => match rkv σ e k, rkvs σ e r with
    | some v, some l => some (v :: l)
    | _, _ => none
def rks : List AV → AV
  | [v] => v
  | l => .tup l
/-- The function's results are of these kinds. -/
inductive RKs (P : Program) : List ResultVar → List RK → Prop
  | nil : RKs P [] []
  | t {a r k} (h : RKs P r k) : RKs P (.tmp a :: r) (.t a :: k)
  | c1 {a T r k} (ha : ∀ w, (isAgg T).run P w = .ok false w) (h : RKs P r k) : RKs P (.cell a T :: r) (.c1 a :: k)
  | ck {a T n r k} (ha : ∀ w, (isAgg T).run P w = .ok true w) (hz : ∀ w, (Go.sizeOf T).run P w = Result.ok n w) (h : RKs P r k) : RKs P (.cell a T :: r) (.ck a n :: k)
def rvRun (tmps : Array Value) : ResultVar → Sem Value
  | .tmp t => pure (tmps.getD t undef)
  | .cell a t => do loadVar t (← asAddr (tmps.getD a undef))
theorem RKs.run {rs : List ResultVar} {ks : List RK} (h : RKs P rs ks) {s : CS} {a : Act} (g : Good s) (he : EnvOK s N e a) : ∀ {l : List AV}, rkvs s.σ e ks = some l → ∃ vs : List Value, (rs.mapM (rvRun a.tmps)).run P s.w = .ok vs s.w ∧ PW s l vs := by
  induction h with
  | nil => intro l hl; simp [rkvs] at hl; subst hl; exact ⟨[], by simp, .nil⟩
  | @t b r k h ih =>
    intro l hl
    simp only [rkvs, rkv] at hl
    split at hl <;> try cases hl
    rename_i v l' e1 e2
    cases e1
    obtain ⟨vs, h1, h2⟩ := ih e2
    exact ⟨a.tmps.getD b undef :: vs, by simp [rvRun, h1], .cons (he.tmps b) h2⟩
  | @c1 b T r k ha h ih =>
    intro l hl
    simp only [rkvs, rkv] at hl
    split at hl <;> try cases hl
    rename_i v l' e1 e2
    split at e1 <;> try cases e1
    rename_i c hld
    obtain ⟨bb, off, vs, k1, k2, _, k4⟩ := (he.tmps b).load g hld
    obtain ⟨u, us, rfl, hv1, _⟩ := k2.inv_cons
    obtain ⟨ws, h1, h2⟩ := ih e2
    have k5 := k4 0 u rfl
    simp only [Nat.add_zero] at k5
    simp only [Act.eval] at k1
    exact ⟨u :: ws, by simp [rvRun, k1, asAddr, loadVar, ha, k5, h1], .cons hv1 h2⟩
  | @ck b T n r k ha hz h ih =>
    intro l hl
    simp only [rkvs, rkv] at hl
    split at hl <;> try cases hl
    rename_i v l' e1 e2
    simp only [Option.map_eq_some_iff] at e1
    obtain ⟨cs, hld, rfl⟩ := e1
    obtain ⟨bb, off, vs, k1, k2, k3, k4⟩ := (he.tmps b).load g hld
    obtain ⟨ws, h1, h2⟩ := ih e2
    have hr := run_loadCells_list (P := P) s.w ⟨bb, off, none⟩ vs (fun j v e => by rw [add_none]; exact k4 j v e)
    rw [k3] at hr
    simp only [Act.eval] at k1
    exact ⟨.agg vs.toArray :: ws, by simp [rvRun, k1, asAddr, loadVar, ha, hz, hr, h1], .cons (.agg _ _ k2.1 k2.2) h2⟩
theorem rks_V {s : CS} {l : List AV} {vs : List Value} (h : PW s l vs) : V s (rks l) (if h : vs.toArray.size = 1 then vs.toArray[0] else .tuple vs.toArray) := by
  match l, vs, h with
  | [], [], _ => exact .tup _ _ rfl (fun i c v h => by simp at h)
  | [a], [v], h => exact h.2 0 a v rfl rfl
  | a :: b :: l, u :: v :: vs, h => exact .tup _ _ h.1 h.2
  | [], _ :: _, h => exact absurd h.1 (by simp)
  | [_], [], h => exact absurd h.1 (by simp)
  | [_], _ :: _ :: _, h => exact absurd h.1 (by simp)
  | _ :: _ :: _, [], h => exact absurd h.1 (by simp)
  | _ :: _ :: _, [_], h => exact absurd h.1 (by simp)

def RQ (n : Nat) (ks : List RK) (R : Out → List AO → Prop) : QA := fun ex e σ =>
  match ex with
  | .normal | .ret => e.D = [] ∧ ∃ l m, rkvs σ e ks = some l ∧ n ≤ m ∧ closed m σ ∧ (rks l).lt m ∧ R (.ret (rks l)) (σ.take m)
  | .pan v => e.D = [] ∧ ∃ m, n ≤ m ∧ closed m σ ∧ v.lt m ∧ R (.pan v) (σ.take m)
  | _ => False
theorem run_results {fn : Func} {ks : List RK} (hk : RKs P fn.results.toList ks) {s : CS} {a : Act} (g : Good s) (he : EnvOK s N e a) {l : List AV} (hl : rkvs s.σ e ks = some l) :
    ∃ cv, (results fn a.tmps).run P s.w = .ok cv s.w ∧ V s (rks l) cv := by
  obtain ⟨vs, h1, h2⟩ := hk.run g he hl
  refine ⟨_, ?_, rks_V h2⟩
  have hm : (fn.results.mapM (rvRun a.tmps)).run P s.w = .ok vs.toArray s.w := by
    have : fn.results = fn.results.toList.toArray := by simp
    rw [this, List.mapM_toArray]
    simp only [map_eq_pure_bind, Sem.run_bind]
    rw [h1]; simp
  show ((fn.results.mapM (rvRun a.tmps)) >>= fun vs => pure (if h : vs.size = 1 then vs[0] else .tuple vs)).run P s.w = _
  rw [Sem.run_bind, hm]
  simp
theorem ACalls_bodyC {f : FuncId} {fn : Func} {c : Code} {args : List AV} {R : Out → List AO → Prop} {ks : List RK} (hf : P.funcs[f]? = some fn) (hb : fn.body = some c) (hN : fn.ntmps = N) (hr : RKs P fn.results.toList ks) (hl : args.length ≤ N)
    (h : closed σ.length σ → AV.ltL σ.length args → AWp P N c ⟨[], penv 0 args⟩ σ (RQ σ.length ks R)) : ACalls P f args σ R := by
  intro s cargs hs g hp
  have hcl : closed σ.length σ := by rw [← hs]; exact g.closed
  have hal : AV.ltL σ.length args := by rw [← hs]; exact hp.ltL
  refine calls_of_wp hf hb ?_
  have henv : EnvOK s N ⟨[], penv 0 args⟩ { tmps := cargs.toArray ++ Array.replicate (fn.ntmps - cargs.toArray.size) undef, defers := [] } := by
    refine ⟨?_, trivial, fun t => ?_⟩
    · have := hp.1
      simp [hN]; omega
    · show V s (lookL (penv 0 args) t) _
      rw [penv_look]
      simp only [Nat.zero_le, if_true, Nat.sub_zero]
      cases ha : args[t]? with
      | none => exact .any _
      | some a =>
        obtain ⟨v, hv, hV⟩ := hp.get ha
        have hlt := (List.getElem?_eq_some_iff.1 hv).1
        have : (cargs.toArray ++ Array.replicate (fn.ntmps - cargs.toArray.size) undef).getD t undef = v := by
          rw [Array.getD_eq_getD_getElem?, Array.getElem?_append_left (by simpa using hlt)]
          simp [hv]
        simp only [Act.eval, this]
        exact hV
  refine wp_mono (h hcl hal s s _ hs g (Ext.refl s) henv) fun ex a w hpost => ?_
  obtain ⟨s', h1, h2, h3, e', h4, h5⟩ := hpost
  have hret : (e'.D = [] ∧ ∃ l m, rkvs s'.σ e' ks = some l ∧ σ.length ≤ m ∧ closed m s'.σ ∧ (rks l).lt m ∧ R (.ret (rks l)) (s'.σ.take m)) → a.defers = [] ∧ ∃ v, (results fn a.tmps).run P w = .ok v w ∧ CPost s R (.returned v) w := fun ⟨k1, l, m, k0, k2, k3, k4, k5⟩ => by
    have hD := h4.defers
    rw [k1] at hD
    have hd : a.defers = [] := by
      cases hd : a.defers with
      | nil => rfl
      | cons d r => rw [hd] at hD; exact hD.elim
    obtain ⟨cv, hc1, hc2⟩ := run_results hr h2 h4 k0
    rw [h1] at hc1
    exact ⟨hd, cv, hc1, s'.cut m, h1, h2.cut k3, h3.cutm (by rw [hs]; exact k2), _, hc2.cut k4, k5⟩
  cases ex with
  | normal => exact hret h5
  | ret => exact hret h5
  | exit id => exact h5.elim
  | goto l => exact h5.elim
  | outgrown => exact h5.elim
  | panic ch =>
    cases ch with
    | nil => exact h5.elim
    | cons en r =>
      cases r with
      | cons => exact h5.elim
      | nil =>
        obtain ⟨h6, v, h7, k1, m, k2, k3, k4, k5⟩ := h5
        have hD := h4.defers
        rw [k1] at hD
        have hd : a.defers = [] := by
          cases hd : a.defers with
          | nil => rfl
          | cons d r => rw [hd] at hD; exact hD.elim
        exact ⟨hd, s'.cut m, h1, h2.cut k3, h3.cutm (by rw [hs]; exact k2), h6, v, h7.cut k4, k5⟩
theorem RQ_ret {el : List (Nat × AV)} {l : List AO} {ks : List RK} {vs : List AV} {R : Out → List AO → Prop} (h : rkvs (σ ++ l) ⟨[], el⟩ ks = some vs) (hc : closed σ.length σ) (hv : (rks vs).lt σ.length) (hR : R (.ret (rks vs)) σ) : RQ σ.length ks R .ret ⟨[], el⟩ (σ ++ l) :=
  ⟨rfl, vs, σ.length, h, Nat.le_refl _, closed_old hc, hv, by rw [take_old]; exact hR⟩
theorem rkvs_cons {σ : List AO} {e : Env} {k : RK} {r : List RK} {v : AV} {l : List AV} (h1 : rkv σ e k = some v) (h2 : rkvs σ e r = some l) : rkvs σ e (k :: r) = some (v :: l) := by simp only [rkvs, h1, h2]
theorem rkv_t {σ : List AO} {el : List (Nat × AV)} {a : Nat} {v : AV} (h : lookO el a = some v) : rkv σ ⟨[], el⟩ (.t a) = some v := by simp only [rkv, Env.look, lookO_eq h]
theorem rkv_ck {σ l : List AO} {el : List (Nat × AV)} {a n k off : Nat} {cs r : List AV} (h : lookO el a = some (.ptr (σ.length + k) off)) (h1 : l[k]? = some (.box cs)) (h2 : tk n (cs.drop off) = some r) : rkv (σ ++ l) ⟨[], el⟩ (.ck a n) = some (.agg r) := by
  simp only [rkv, Env.look, lookO_eq h, ldv_own h1 h2, Option.map_some]
theorem rkv_c1 {σ l : List AO} {el : List (Nat × AV)} {a k off : Nat} {cs : List AV} {c : AV} (h : lookO el a = some (.ptr (σ.length + k) off)) (h1 : l[k]? = some (.box cs)) (h2 : tk 1 (cs.drop off) = some [c]) : rkv (σ ++ l) ⟨[], el⟩ (.c1 a) = some c := by
  simp only [rkv, Env.look, lookO_eq h, ldv_own h1 h2]
end Lg
namespace Lg
open Go Go.RowKit
variable [GLay]
variable {P : Program} {σ : List AO}
/-- What is handed back, taken for something as good. -/
theorem ACalls.weak {f : FuncId} {args : List AV} {R R' : Out → List AO → Prop} (h : ACalls P f args σ R) (hr : ∀ v σ', R (.ret v) σ' → ∃ v', AVle v v' ∧ R' (.ret v') σ') (hp : ∀ v σ', R (.pan v) σ' → R' (.pan v) σ') : ACalls P f args σ R' := fun s cargs hs g hpw =>
  (h s cargs hs g hpw).mono fun ed w' hc => by
    obtain ⟨s', h1, h2, h3, h4⟩ := hc
    refine ⟨s', h1, h2, h3, ?_⟩
    cases ed with
    | returned cv =>
      obtain ⟨v, h5, h6⟩ := h4
      obtain ⟨v', h7, h8⟩ := hr v _ h6
      exact ⟨v', h7 _ _ h5, h8⟩
    | outgrown => exact h4
    | panicked ch =>
      cases ch with
      | nil => exact h4
      | cons en r =>
        cases r with
        | nil => obtain ⟨h5, v, h6, h7⟩ := h4; exact ⟨h5, v, h6, hp _ _ h7⟩
        | cons => exact h4
end Lg
namespace Lg
open Go
/-- The member's value of a key. -/
def jfind (v : JV) (key : ByteArray) : Option JV := if v.kind = 5 then (v.m.find? fun q => decide (q.1 = key)).map (·.2) else none
theorem find_some {α : Type} {p : α → Bool} {l : List α} {i : Nat} {x : α} (h : ∀ (j : Nat) y, j < i → l[j]? = some y → p y = false) (hx : l[i]? = some x) (hp : p x = true) : l.find? p = some x := by
  induction l generalizing i with
  | nil => simp at hx
  | cons a r ih =>
    cases i with
    | zero => simp at hx; subst hx; simp [hp]
    | succ i =>
      have h0 := h 0 a (by omega) (by simp)
      simp only [List.find?_cons, h0]
      exact ih (i := i) (fun j y hj hy => h (j + 1) y (by omega) (by simpa using hy)) (by simpa using hx)
theorem find_none {α : Type} {p : α → Bool} {l : List α} (h : ∀ (j : Nat) y, l[j]? = some y → p y = false) : l.find? p = none := by
  rw [List.find?_eq_none]
  intro x hx
  obtain ⟨j, hj⟩ := List.getElem?_of_mem hx
  simp [h j x hj]
section
variable [GLay]
def FindR (v : JV) (key : ByteArray) (σ : List AO) : Out → List AO → Prop := fun o σ' => σ' = σ ∧ ∃ r b, o = .ret (.tup [.agg r, .bool b]) ∧ AVleL r (vcells ((jfind v key).getD vz)) ∧ b = (jfind v key).isSome
theorem FindR.ret {P : Program} {f : FuncId} {args : List AV} {v : JV} {key : ByteArray} {σ : List AO} (h : ACalls P f args σ (FindR v key σ)) : ACalls P f args σ (Ret (.tup [.agg (vcells ((jfind v key).getD vz)), .bool (jfind v key).isSome]) σ) :=
  h.weak (fun w σ' hr => by
    obtain ⟨rfl, r, b, h1, h2, rfl⟩ := hr
    injection h1 with h1
    subst h1
    exact ⟨_, AVle.tup (r := [.agg (vcells ((jfind v key).getD vz)), .bool _]) ⟨AVle.agg h2, AVle.refl _, trivial⟩, rfl, rfl⟩) (fun w σ' hr => by obtain ⟨_, r, b, h1, _⟩ := hr; cases h1)
end
end Lg
namespace Lg
open Go Go.RowKit
variable [GLay]
variable {P : Program} {N : Nat} {σ : List AO} {e : Env} {Q : QA} {ops : Array Oper} {o : Oper}

/-! ### An object of the caller's that is written: the heap is kept as 'σ.set p x', own objects behind it -/
theorem set_same {p : Nat} {x : AO} (h : σ[p]? = some x) : σ.set p x = σ := by
  apply List.ext_getElem?
  intro i
  rw [List.getElem?_set]
  split
  · rename_i e; subst e; split
    · exact h.symm
    · rename_i h1; rw [List.getElem?_eq_none (by omega)] at h; cases h
  · rfl
theorem AWp_heap {c : Code} {σ' : List AO} (h : σ' = σ) (k : AWp P N c e σ' Q) : AWp P N c e σ Q := h ▸ k
variable {p : Nat} {x : AO} {l : List AO}
theorem get_set (h : p < σ.length) : (σ.set p x)[p]? = some x := by rw [List.getElem?_set]; simp [h]
theorem get_setA (h : p < σ.length) : (σ.set p x ++ l)[p]? = some x := by rw [List.getElem?_append_left (by simpa using h)]; exact get_set h
theorem get_ownS (k : Nat) : (σ.set p x ++ l)[σ.length + k]? = l[k]? := by
  rw [List.getElem?_append_right (by simp)]; congr 1; simp
theorem ldv_set {off n : Nat} {cs r : List AV} (h : p < σ.length) (hr : tk n (cs.drop off) = some r) : ldv (σ.set p (.box cs)) n (.ptr p off) = some r := ldv_ptr (get_set h) hr
theorem ldv_setA {off n : Nat} {cs r : List AV} (h : p < σ.length) (hr : tk n (cs.drop off) = some r) : ldv (σ.set p (.box cs) ++ l) n (.ptr p off) = some r := ldv_ptr (get_setA h) hr
theorem ldv_ownS {k off n : Nat} {cs r : List AV} (h : l[k]? = some (.box cs)) (hr : tk n (cs.drop off) = some r) : ldv (σ.set p x ++ l) n (.ptr (σ.length + k) off) = some r := by
  simp only [ldv, get_ownS, h, hr]
theorem op_storeS {T : TypeId} {a b : Operand} {n off : Nat} {cs r : List AV} (ho : o.op = .store T a b) (hz : ∀ w, (Go.sizeOf T).run P w = Result.ok n w) (hn : (opv e b).cells.length = n)
    (h1 : ones (opv e b).cells = true) (hx : opv e a = .ptr p off) (hp : p < σ.length) (hr : spl off cs (opv e b).cells = some r) (hn0 : n ≠ 0) : AOp P (σ.set p (.box cs)) e o .any (σ.set p (.box r)) := by
  have := op_storeP (P := P) (σ := σ.set p (.box cs)) ho hz hn h1 hx (get_set hp) hr hn0
  rwa [List.set_set] at this
theorem op_storeSA {T : TypeId} {a b : Operand} {n off : Nat} {cs r : List AV} (ho : o.op = .store T a b) (hz : ∀ w, (Go.sizeOf T).run P w = Result.ok n w) (hn : (opv e b).cells.length = n)
    (h1 : ones (opv e b).cells = true) (hx : opv e a = .ptr p off) (hp : p < σ.length) (hr : spl off cs (opv e b).cells = some r) (hn0 : n ≠ 0) : AOp P (σ.set p (.box cs) ++ l) e o .any (σ.set p (.box r) ++ l) := by
  have := op_storeP (P := P) (σ := σ.set p (.box cs) ++ l) ho hz hn h1 hx (get_setA hp) hr hn0
  rwa [List.set_append_left _ _ (by simpa using hp), List.set_set] at this
theorem op_storeOS {T : TypeId} {a b : Operand} {n k off : Nat} {cs r : List AV} (ho : o.op = .store T a b) (hz : ∀ w, (Go.sizeOf T).run P w = Result.ok n w) (hn : (opv e b).cells.length = n)
    (h1 : ones (opv e b).cells = true) (hx : opv e a = .ptr (σ.length + k) off) (hl : l[k]? = some (.box cs)) (hr : spl off cs (opv e b).cells = some r) (hn0 : n ≠ 0) : AOp P (σ.set p x ++ l) e o .any (σ.set p x ++ l.set k (.box r)) := by
  have := op_storeP (P := P) (σ := σ.set p x ++ l) ho hz hn h1 hx (by rw [get_ownS]; exact hl) hr hn0
  rwa [List.set_append_right _ _ (by simp), List.length_set, Nat.add_sub_cancel_left] at this
theorem op_boxS {T : TypeId} {a : Operand} {cs : List AV} (n : Nat) (hn : l.length = n) (ho : o.op = .box T a) (hx : (opv e a).cells = cs) (h1 : ones cs = true) : AOp P (σ.set p x ++ l) e o (.ptr (σ.length + n) 0) (σ.set p x ++ (l ++ [.box cs])) := by
  have := op_box (P := P) (σ := σ.set p x ++ l) ho hx h1
  rwa [List.length_append, hn, List.append_assoc, List.length_set] at this
theorem op_boxS0 {T : TypeId} {a : Operand} {cs : List AV} (ho : o.op = .box T a) (hx : (opv e a).cells = cs) (h1 : ones cs = true) : AOp P (σ.set p x) e o (.ptr (σ.length + 0) 0) (σ.set p x ++ [.box cs]) := by
  have := op_box (P := P) (σ := σ.set p x) ho hx h1
  rwa [List.length_set] at this
theorem op_allocS {T : TypeId} {z : Value} {cs : List AV} (n : Nat) (hn : l.length = n) (ho : o.op = .alloc T) (hz : ∀ w, (zeroValue T).run P w = Result.ok z w) (hx : z.cells.toList.map ofConst1 = cs) : AOp P (σ.set p x ++ l) e o (.ptr (σ.length + n) 0) (σ.set p x ++ (l ++ [.box cs])) := by
  have := op_alloc (P := P) (σ := σ.set p x ++ l) (e := e) ho hz hx
  rwa [List.length_append, hn, List.append_assoc, List.length_set] at this
theorem op_allocS0 {T : TypeId} {z : Value} {cs : List AV} (ho : o.op = .alloc T) (hz : ∀ w, (zeroValue T).run P w = Result.ok z w) (hx : z.cells.toList.map ofConst1 = cs) : AOp P (σ.set p x) e o (.ptr (σ.length + 0) 0) (σ.set p x ++ [.box cs]) := by
  have := op_alloc (P := P) (σ := σ.set p x) (e := e) ho hz hx
  rwa [List.length_set] at this
end Lg
namespace Lg
open Go Go.RowKit
variable [GLay]
variable {σ l : List AO} {p : Nat} {x : AO} {el : List (Nat × AV)} {ts : List Nat} {v : AV} {R : Out → List AO → Prop}
theorem takeS : (σ.set p x ++ l).take σ.length = σ.set p x := by
  have : (σ.set p x).length = σ.length := List.length_set
  rw [← this, List.take_left']
  exact rfl
theorem closedS (hc : closed σ.length σ) (hx : AV.ltL σ.length x.cells) : closed σ.length (σ.set p x ++ l) := fun q o hq ho => by
  rw [List.getElem?_append_left (by simpa using hq)] at ho
  exact closed_set hc hx q o hq ho
/-- The end of a function that has written the caller's object at p. -/
theorem ResQ_S (h : resA ts ⟨[], el⟩ = v) (hc : closed σ.length σ) (hx : AV.ltL σ.length x.cells) (hv : v.lt σ.length) (hR : R (.ret v) (σ.set p x)) : ResQ σ.length ts R .ret ⟨[], el⟩ (σ.set p x ++ l) :=
  ⟨rfl, σ.length, Nat.le_refl _, closedS hc hx, by rw [h]; exact hv, by rw [h, takeS]; exact hR⟩
theorem ResQ_S0 (h : resA ts ⟨[], el⟩ = v) (hc : closed σ.length σ) (hx : AV.ltL σ.length x.cells) (hv : v.lt σ.length) (hR : R (.ret v) (σ.set p x)) : ResQ σ.length ts R .ret ⟨[], el⟩ (σ.set p x) := by
  have := ResQ_S (l := []) (p := p) h hc hx hv hR
  simpa using this
theorem ResQ_N0 (hc : closed σ.length σ) (hx : AV.ltL σ.length x.cells) (hR : R (.ret (.tup [])) (σ.set p x)) : ResQ σ.length [] R .normal ⟨[], el⟩ (σ.set p x) :=
  ResQ_S0 (ts := []) (v := .tup []) (p := p) (el := el) (R := R) rfl hc hx trivial hR
theorem ResQ_N (hc : closed σ.length σ) (hx : AV.ltL σ.length x.cells) (hR : R (.ret (.tup [])) (σ.set p x)) : ResQ σ.length [] R .normal ⟨[], el⟩ (σ.set p x ++ l) :=
  ResQ_S (ts := []) (v := .tup []) (p := p) (el := el) (R := R) rfl hc hx trivial hR
end Lg
namespace Lg
open Go Go.RowKit
variable [GLay]
variable {P : Program} {f : FuncId} {args : List AV} {σ l : List AO} {p : Nat} {x y : AO} {v : AV}
theorem callS (h : ACalls P f args (σ.set p x) (Ret v ((σ.set p x).set p y))) : ACalls P f args (σ.set p x) (Ret v (σ.set p y)) := by rwa [List.set_set] at h
theorem callSA (hp : p < σ.length) (h : ACalls P f args (σ.set p x ++ l) (Ret v ((σ.set p x ++ l).set p y))) : ACalls P f args (σ.set p x ++ l) (Ret v (σ.set p y ++ l)) := by
  rwa [List.set_append_left _ _ (by simpa using hp), List.set_set] at h
end Lg
namespace Lg
open Go
/-- The reader's next byte. -/
def pkv (s : ByteArray) (a bad : Int) : Int := if bad ≠ 0 ∨ (s.size : Int) ≤ a then -1 else (bat s a.toNat).toNat
end Lg
namespace Lg
open Go
def isbl (c : UInt8) : Prop := c.toNat = 32 ∨ c.toNat = 9 ∨ c.toNat = 10 ∨ c.toNat = 13
instance (c : UInt8) : Decidable (isbl c) := by unfold isbl; exact inferInstance
/-- Where blanks end. -/
def blk (s : ByteArray) (a : Nat) : Nat := if h : a < s.size ∧ isbl (bat s a) then blk s (a + 1) else a
termination_by s.size - a
theorem blk_yes {s : ByteArray} {a : Nat} (h1 : a < s.size) (h2 : isbl (bat s a)) : blk s a = blk s (a + 1) := by rw [blk]; simp [h1, h2]
theorem blk_no {s : ByteArray} {a : Nat} (h : ¬ (a < s.size ∧ isbl (bat s a))) : blk s a = a := by rw [blk]; simp only [h, dite_false]
theorem blk_le (s : ByteArray) (a : Nat) : a ≤ blk s a ∧ (blk s a ≤ s.size ∨ blk s a = a) := by
  by_cases h : a < s.size ∧ isbl (bat s a)
  · rw [blk_yes h.1 h.2]; have := blk_le s (a + 1); omega
  · rw [blk_no h]; omega
termination_by s.size - a
end Lg
namespace Lg
open Go
theorem pk_yes {s : ByteArray} {a : Nat} {bad : Int} (h : 0 ≤ pkv s a bad) : bad = 0 ∧ a < s.size ∧ pkv s a bad = (bat s a).toNat := by
  unfold pkv at h ⊢
  split at h
  · omega
  · rename_i h1
    rw [if_neg h1]
    exact ⟨by omega, by omega, by simp⟩
theorem pk_in {s : ByteArray} {a : Nat} {bad : Int} (h0 : bad = 0) (h : a < s.size) : pkv s a bad = (bat s a).toNat := by
  unfold pkv; rw [if_neg (by omega)]; simp
theorem take_set {σ : List AO} {p : Nat} {x y : AO} (h : x = y) : (σ.set p x).take σ.length = σ.set p y := by
  rw [List.take_of_length_le (by simp), h]
end Lg
set_option maxRecDepth 20000
set_option maxHeartbeats 4000000
namespace Lg
open Go Go.Proofs Go.RowKit
variable [GLay] 


theorem peek_c (s : ByteArray) (at0 deep bad spot : Int) (p : Nat) (σ : List AO) (hσ : σ[p]? = some (.box [.str s, .int .i64 at0, .int .i64 deep, .int .i64 bad, .int .i64 spot])) (h0 : 0 ≤ at0) : ACalls Tryd.prog 59 [.ptr p 0] σ (Ret (.int .i64 (pkv s at0 bad)) σ) := by
  refine ACalls_body Tryd.func59 rfl Tryd.ntmps59 (res1 Tryd.results59) (Nat.le_of_ble_eq_true rfl) (fun hcl hal => ?_)
  have hbl := bat_lt s at0.toNat
  refine AWp_seq ?_
  -- region 0 ref.go:499
  refine AWp_regL ?_
  refine st rfl rfl rfl (op_assignO rfl rfl) ?_
  refine AOps_nil ?_
  refine AWp_seq ?_
  refine AWp_seq ?_
  -- region 1 ref.go:500 DRAWN
  refine AWp_drawL #[0, 1, 3, 7, 15, 31, 63, 127, 255, 511, 63, 1087, 3135, 7231, 15423, 32767, 65535] Tryd.mixed (by decide +kernel) (by decide +kernel) ?_
  refine rA rfl rfl rfl rfl (fun _ => op_moveO rfl rfl) ?_
  refine rA rfl rfl rfl rfl (fun _ => op_nilCheck rfl rfl rfl) ?_
  refine rA rfl rfl rfl rfl (fun _ => op_fieldAddrO (fo := 3) rfl Tryd.underlying93 rfl rfl Tryd.sizeOf3 (by decide) rfl trivial) ?_
  refine rP rfl rfl rfl rfl (op_load1 rfl Tryd.isAgg3 (by first | exact ldv_own rfl rfl | exact ldv_pp rfl | exact ldv_old (by assumption) rfl | exact ldv_ptr (by assumption) rfl)) (trivial) ?_
  refine rA rfl rfl rfl rfl (fun _ => op_neq rfl rfl rfl) ?_
  refine rA rfl rfl rfl rfl (fun _ => op_moveO rfl rfl) ?_
  refine RP_split 8 rfl (fun h1 => ?_) (fun h1 => ?_)
  · rw [h1]; (try simp only [decide_eq_true_eq, decide_eq_false_iff_not, Bool.not_eq_true', Bool.not_eq_false', Int.not_lt, Int.not_le, Bool.not_true, Bool.not_false, Int.toNat_natCast, bne_iff_ne, beq_iff_eq, beq_eq_false_iff_ne, ne_eq, Decidable.not_not] at h1)
    refine rS rfl rfl rfl rfl (.inl rfl) rfl rfl ?_
    refine rS rfl rfl rfl rfl (.inl rfl) rfl rfl ?_
    refine rS rfl rfl rfl rfl (.inl rfl) rfl rfl ?_
    refine rS rfl rfl rfl rfl (.inl rfl) rfl rfl ?_
    refine rS rfl rfl rfl rfl (.inl rfl) rfl rfl ?_
    refine rS rfl rfl rfl rfl (.inl rfl) rfl rfl ?_
    refine rS rfl rfl rfl rfl (.inl rfl) rfl rfl ?_
    refine rS rfl rfl rfl rfl (.inl rfl) rfl rfl ?_
    refine rS rfl rfl rfl rfl (.inl rfl) rfl rfl ?_
    refine rS rfl rfl rfl rfl (.inl rfl) rfl rfl ?_
    refine rA rfl rfl rfl rfl (fun _ => op_pickTO rfl rfl rfl) ?_
    refine RP.nil rfl ?_
    refine AWp_condT rfl ?_
    refine AWp_seq ?_
    -- region 2 ref.go:501
    refine AWp_regL ?_
    refine st rfl rfl rfl (op_assignO rfl rfl) ?_
    refine AOps_nil ?_
    refine AWp_ret ?_
    (try simp only [blockQ, thenQ])
    refine ResQ_10 rfl hcl trivial (Ret_of ?_)
    congr 1; unfold pkv; first | (rw [if_pos (by omega)]; done) | (rw [if_neg (by omega)]; done)
  · rw [h1]; (try simp only [decide_eq_true_eq, decide_eq_false_iff_not, Bool.not_eq_true', Bool.not_eq_false', Int.not_lt, Int.not_le, Bool.not_true, Bool.not_false, Int.toNat_natCast, bne_iff_ne, beq_iff_eq, beq_eq_false_iff_ne, ne_eq, Decidable.not_not] at h1)
    refine rAG rfl rfl rfl rfl rfl rfl rfl (fun _ => op_moveO rfl rfl) ?_
    refine rAG rfl rfl rfl rfl rfl rfl rfl (fun _ => op_nilCheck rfl rfl rfl) ?_
    refine rAG rfl rfl rfl rfl rfl rfl rfl (fun _ => op_fieldAddrO (fo := 1) rfl Tryd.underlying93 rfl rfl Tryd.sizeOf3 (by decide) rfl trivial) ?_
    refine rPG rfl rfl rfl rfl rfl rfl rfl (op_load1 rfl Tryd.isAgg3 (by first | exact ldv_own rfl rfl | exact ldv_pp rfl | exact ldv_old (by assumption) rfl | exact ldv_ptr (by assumption) rfl)) (trivial) ?_
    refine rAG rfl rfl rfl rfl rfl rfl rfl (fun _ => op_moveO rfl rfl) ?_
    refine rAG rfl rfl rfl rfl rfl rfl rfl (fun _ => op_nilCheck rfl rfl rfl) ?_
    refine rAG rfl rfl rfl rfl rfl rfl rfl (fun _ => op_fieldAddrO (fo := 0) rfl Tryd.underlying93 rfl rfl Tryd.sizeOf9 (by decide) rfl trivial) ?_
    refine rPG rfl rfl rfl rfl rfl rfl rfl (op_load1 rfl Tryd.isAgg9 (by first | exact ldv_own rfl rfl | exact ldv_pp rfl | exact ldv_old (by assumption) rfl | exact ldv_ptr (by assumption) rfl)) (trivial) ?_
    refine rAG rfl rfl rfl rfl rfl rfl rfl (fun _ => op_lenStr rfl rfl Tryd.underlying9 rfl) ?_
    refine rAG rfl rfl rfl rfl rfl rfl rfl (fun _ => op_geq rfl rfl rfl) ?_
    refine rA rfl rfl rfl rfl (fun _ => op_pickFO rfl rfl rfl) ?_
    refine RP.nil rfl ?_
    refine AWp_cond rfl (fun h2 => ?_) (fun h2 => ?_)
    · (try rw [h2]); (try simp only [decide_eq_true_eq, decide_eq_false_iff_not, Bool.not_eq_true', Bool.not_eq_false', Int.not_lt, Int.not_le, Bool.not_true, Bool.not_false, Int.toNat_natCast, bne_iff_ne, beq_iff_eq, beq_eq_false_iff_ne, ne_eq, Decidable.not_not] at h2)
      refine AWp_seq ?_
      -- region 2 ref.go:501
      refine AWp_regL ?_
      refine st rfl rfl rfl (op_assignO rfl rfl) ?_
      refine AOps_nil ?_
      refine AWp_ret ?_
      (try simp only [blockQ, thenQ])
      refine ResQ_10 rfl hcl trivial (Ret_of ?_)
      congr 1; unfold pkv; first | (rw [if_pos (by omega)]; done) | (rw [if_neg (by omega)]; done)
    · (try rw [h2]); (try simp only [decide_eq_true_eq, decide_eq_false_iff_not, Bool.not_eq_true', Bool.not_eq_false', Int.not_lt, Int.not_le, Bool.not_true, Bool.not_false, Int.toNat_natCast, bne_iff_ne, beq_iff_eq, beq_eq_false_iff_ne, ne_eq, Decidable.not_not] at h2)
      refine AWp_skip ?_
      refine AWp_seq ?_
      -- region 3 ref.go:503 DRAWN
      refine AWp_drawL #[0, 1, 3, 7, 0, 16, 48, 112, 255, 511, 1023] Tryd.mixed (by decide +kernel) (by decide +kernel) ?_
      refine rA rfl rfl rfl rfl (fun _ => op_moveO rfl rfl) ?_
      refine rA rfl rfl rfl rfl (fun _ => op_nilCheck rfl rfl rfl) ?_
      refine rA rfl rfl rfl rfl (fun _ => op_fieldAddrO (fo := 0) rfl Tryd.underlying93 rfl rfl Tryd.sizeOf9 (by decide) rfl trivial) ?_
      refine rP rfl rfl rfl rfl (op_load1 rfl Tryd.isAgg9 (by first | exact ldv_own rfl rfl | exact ldv_pp rfl | exact ldv_old (by assumption) rfl | exact ldv_ptr (by assumption) rfl)) (trivial) ?_
      refine rA rfl rfl rfl rfl (fun _ => op_moveO rfl rfl) ?_
      refine rA rfl rfl rfl rfl (fun _ => op_nilCheck rfl rfl rfl) ?_
      refine rA rfl rfl rfl rfl (fun _ => op_fieldAddrO (fo := 1) rfl Tryd.underlying93 rfl rfl Tryd.sizeOf3 (by decide) rfl trivial) ?_
      refine rP rfl rfl rfl rfl (op_load1 rfl Tryd.isAgg3 (by first | exact ldv_own rfl rfl | exact ldv_pp rfl | exact ldv_old (by assumption) rfl | exact ldv_ptr (by assumption) rfl)) (trivial) ?_
      refine rA rfl rfl rfl rfl (fun _ => op_index_strB rfl Tryd.underlying9 rfl rfl (by omega) (by omega)) ?_
      refine rA rfl rfl rfl rfl (fun _ => op_convIn rfl (by rw [Tryd.underlying5]; rfl) Tryd.underlying3 rfl (by first | rfl | exact wrap64_in (by omega) (by omega) | (simp only [IntKind.wrap]; omega))) ?_
      refine rA rfl rfl rfl rfl (fun _ => op_assignO rfl rfl) ?_
      refine RP.nil rfl ?_
      refine AWp_ret ?_
      (try simp only [blockQ, thenQ])
      refine ResQ_10 rfl hcl trivial (Ret_of ?_)
      congr 1; unfold pkv; first | (rw [if_pos (by omega)]; done) | (rw [if_neg (by omega)]; done)

end Lg
set_option maxRecDepth 20000
set_option maxHeartbeats 4000000
namespace Lg
open Go Go.Proofs Go.RowKit
variable [GLay] 


theorem fail_c (s : ByteArray) (at0 deep bad spot : Int) (p : Nat) (σ : List AO) (hσ : σ[p]? = some (.box [.str s, .int .i64 at0, .int .i64 deep, .int .i64 bad, .int .i64 spot])) (a b : Int) : ACalls Tryd.prog 53 [.ptr p 0, .int .i64 a, .int .i64 b] σ (Ret (.tup []) (σ.set p (.box [.str s, .int .i64 at0, .int .i64 deep, .int .i64 (if bad = 0 then b else bad), .int .i64 (if bad = 0 then a else spot)]))) := by
  have hp : p < σ.length := (List.getElem?_eq_some_iff.1 hσ).1
  refine ACalls_body Tryd.func53 rfl Tryd.ntmps53 (res0 Tryd.results53) (Nat.le_of_ble_eq_true rfl) (fun hcl hal => ?_)
  refine AWp_heap (set_same hσ) ?_
  refine AWp_seq ?_
  -- region 0 ref.go:492
  refine AWp_regL ?_
  refine st rfl rfl rfl (op_moveO rfl rfl) ?_
  refine st rfl rfl rfl (op_nilCheck rfl rfl rfl) ?_
  refine st rfl rfl rfl (op_fieldAddrO (fo := 3) rfl Tryd.underlying93 rfl rfl Tryd.sizeOf3 (by decide) rfl trivial) ?_
  refine st rfl rfl rfl (op_load1 rfl Tryd.isAgg3 (by first | exact ldv_set hp rfl | exact ldv_setA hp rfl | exact ldv_ownS rfl rfl | exact ldv_pp rfl)) ?_
  refine st rfl rfl rfl (op_eql rfl rfl rfl) ?_
  refine AOps_nil ?_
  refine AWp_cond rfl (fun h1 => ?_) (fun h1 => ?_)
  · (try rw [h1]); (try simp only [decide_eq_true_eq, decide_eq_false_iff_not, Bool.not_eq_true', Bool.not_eq_false', Int.not_lt, Int.not_le, Bool.not_true, Bool.not_false, Int.toNat_natCast, bne_iff_ne, beq_iff_eq, beq_eq_false_iff_ne, ne_eq, Decidable.not_not] at h1)
    refine AWp_seq ?_
    -- region 1 ref.go:493
    refine AWp_regL ?_
    refine st rfl rfl rfl (op_moveO rfl rfl) ?_
    refine st rfl rfl rfl (op_moveO rfl rfl) ?_
    refine st rfl rfl rfl (op_nilCheck rfl rfl rfl) ?_
    refine st rfl rfl rfl (op_fieldAddrO (fo := 3) rfl Tryd.underlying93 rfl rfl Tryd.sizeOf3 (by decide) rfl trivial) ?_
    refine stN rfl rfl ((by first | exact op_storeS (r := [_, _, _, _, _]) rfl Tryd.sizeOf3 rfl rfl rfl hp rfl (by decide) | exact op_storeSA (r := [_, _, _, _, _]) rfl Tryd.sizeOf3 rfl rfl rfl hp rfl (by decide) | exact op_storeOS (r := [_, _, _, _, _]) rfl Tryd.sizeOf3 rfl rfl rfl rfl rfl (by decide))) ?_
    refine AOps_nil ?_
    -- region 2 ref.go:494
    refine AWp_regL ?_
    refine st rfl rfl rfl (op_moveO rfl rfl) ?_
    refine st rfl rfl rfl (op_moveO rfl rfl) ?_
    refine st rfl rfl rfl (op_nilCheck rfl rfl rfl) ?_
    refine st rfl rfl rfl (op_fieldAddrO (fo := 4) rfl Tryd.underlying93 rfl rfl Tryd.sizeOf3 (by decide) rfl trivial) ?_
    refine stN rfl rfl ((by first | exact op_storeS (r := [_, _, _, _, _]) rfl Tryd.sizeOf3 rfl rfl rfl hp rfl (by decide) | exact op_storeSA (r := [_, _, _, _, _]) rfl Tryd.sizeOf3 rfl rfl rfl hp rfl (by decide) | exact op_storeOS (r := [_, _, _, _, _]) rfl Tryd.sizeOf3 rfl rfl rfl rfl rfl (by decide))) ?_
    refine AOps_nil ?_
    (try simp only [blockQ, thenQ])
    rw [if_pos h1, if_pos h1]
    exact ResQ_N0 (x := .box [.str s, .int .i64 at0, .int .i64 deep, .int .i64 b, .int .i64 a]) hcl (by simp [AO.cells, AV.ltL, AV.lt]) ⟨rfl, rfl⟩
  · (try rw [h1]); (try simp only [decide_eq_true_eq, decide_eq_false_iff_not, Bool.not_eq_true', Bool.not_eq_false', Int.not_lt, Int.not_le, Bool.not_true, Bool.not_false, Int.toNat_natCast, bne_iff_ne, beq_iff_eq, beq_eq_false_iff_ne, ne_eq, Decidable.not_not] at h1)
    refine AWp_skip ?_
    (try simp only [blockQ, thenQ])
    rw [if_neg h1, if_neg h1]
    exact ResQ_N0 hcl (by simp [AO.cells, AV.ltL, AV.lt]) ⟨rfl, rfl⟩

end Lg
