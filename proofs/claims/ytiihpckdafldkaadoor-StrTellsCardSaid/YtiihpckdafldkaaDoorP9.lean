/- A part of the proof of StrTells: the text that stands in quotes at any place of any bytes, or what is amiss, where; any text in quotes: W3. -/
import Derived.Test.YtiihpckdafldkaaDoorP5
import Derived.Test.YtiihpckdafldkaaDoorProg
set_option linter.unusedVariables false
set_option linter.unusedSimpArgs false
set_option linter.unusedSectionVars false
set_option maxRecDepth 20000
set_option maxHeartbeats 4000000
namespace Lg
open Go Go.Proofs Go.RowKit
variable [GLay] 


theorem utf8_c (s : ByteArray) (a : Int) (σ : List AO) (hs : s.size ≤ 1000000000) (h0 : 0 ≤ a) (ha : a < s.size) : ACalls Tryd.prog 43 [.str s, .int .i64 a] σ (Ret (.int .i64 (u8 s a.toNat : Int)) σ) := by
  refine ACalls_body Tryd.func43 rfl Tryd.ntmps43 (res1 Tryd.results43) (Nat.le_of_ble_eq_true rfl) (fun hcl hal => ?_)
  have c0 := bat_lt s a.toNat
  have c1 := bat_lt s (a.toNat + 1)
  have c2 := bat_lt s (a.toNat + 2)
  have c3 := bat_lt s (a.toNat + 3)
  refine AWp_seq ?_
  -- region 0 ref.go:207
  refine AWp_regL ?_
  refine st rfl rfl rfl (op_assignO rfl rfl) ?_
  refine AOps_nil ?_
  refine AWp_seq ?_
  -- region 1 ref.go:208
  refine AWp_regL ?_
  refine st rfl rfl rfl (op_moveO rfl rfl) ?_
  refine st rfl rfl rfl (op_moveO rfl rfl) ?_
  refine st rfl rfl rfl (op_index_strB rfl Tryd.underlying9 rfl rfl (by omega) (by omega)) ?_
  refine st rfl rfl rfl (op_convIn rfl (by rw [Tryd.underlying5]; rfl) Tryd.underlying3 rfl (by first | rfl | exact wrap64_in (by omega) (by omega) | (simp only [IntKind.wrap]; omega))) ?_
  refine st rfl rfl rfl (op_assignO rfl rfl) ?_
  refine AOps_nil ?_
  refine AWp_seq ?_
  refine AWp_seq ?_
  -- region 2 ref.go:209
  refine AWp_regL ?_
  refine st rfl rfl rfl (op_moveO rfl rfl) ?_
  refine st rfl rfl rfl (op_lss rfl rfl rfl) ?_
  refine AOps_nil ?_
  refine AWp_cond rfl (fun h1 => ?_) (fun h1 => ?_)
  · (try rw [h1]); (try simp only [decide_eq_true_eq, decide_eq_false_iff_not, Bool.not_eq_true', Bool.not_eq_false', Int.not_lt, Int.not_le, Bool.not_true, Bool.not_false, Int.toNat_natCast, bne_iff_ne, beq_iff_eq, ne_eq, Decidable.not_not] at h1)
    refine AWp_seq ?_
    -- region 3 ref.go:210
    refine AWp_regL ?_
    refine st rfl rfl rfl (op_assignO rfl rfl) ?_
    refine AOps_nil ?_
    refine AWp_ret ?_
    (try simp only [blockQ, thenQ])
    refine ResQ_10 rfl hcl trivial (Ret_of ?_)
    congr 1
    unfold u8
    first | rw [u8N_1 (by omega)] | rw [u8N_2 (by omega) (by omega)] | rw [u8N_3 (by omega) (by omega) rfl] | rw [u8N_4 (by omega) (by omega) rfl] | rw [u8N_0 (by omega) (by omega)]
    all_goals (try split) <;> omega
  · (try rw [h1]); (try simp only [decide_eq_true_eq, decide_eq_false_iff_not, Bool.not_eq_true', Bool.not_eq_false', Int.not_lt, Int.not_le, Bool.not_true, Bool.not_false, Int.toNat_natCast, bne_iff_ne, beq_iff_eq, ne_eq, Decidable.not_not] at h1)
    refine AWp_skip ?_
    refine AWp_seq ?_
    -- region 4 ref.go:212
    refine AWp_regL ?_
    refine st rfl rfl rfl (op_assignO rfl rfl) ?_
    refine AOps_nil ?_
    refine AWp_seq ?_
    -- region 5 ref.go:213
    refine AWp_regL ?_
    refine st rfl rfl rfl (op_assignO rfl rfl) ?_
    refine AOps_nil ?_
    refine AWp_seq ?_
    -- region 6 ref.go:214
    refine AWp_regL ?_
    refine st rfl rfl rfl (op_assignO rfl rfl) ?_
    refine AOps_nil ?_
    refine AWp_seq ?_
    refine AWp_seq ?_
    -- region 7 ref.go:215
    refine AWp_regL ?_
    refine st rfl rfl rfl (op_moveO rfl rfl) ?_
    refine st rfl rfl rfl (op_geq rfl rfl rfl) ?_
    refine st rfl rfl rfl (op_moveO rfl rfl) ?_
    refine AOps_split 19 rfl (fun h2 => ?_) (fun h2 => ?_)
    · rw [h2]; (try simp only [decide_eq_true_eq, decide_eq_false_iff_not, Bool.not_eq_true', Bool.not_eq_false', Int.not_lt, Int.not_le, Bool.not_true, Bool.not_false, Int.toNat_natCast, bne_iff_ne, beq_iff_eq, ne_eq, Decidable.not_not] at h2)
      refine stG rfl rfl rfl rfl rfl rfl (op_moveO rfl rfl) ?_
      refine stG rfl rfl rfl rfl rfl rfl (op_lss rfl rfl rfl) ?_
      refine st rfl rfl rfl (op_pickTO rfl rfl rfl) ?_
      refine AOps_nil ?_
      refine AWp_cond rfl (fun h3 => ?_) (fun h3 => ?_)
      · (try rw [h3]); (try simp only [decide_eq_true_eq, decide_eq_false_iff_not, Bool.not_eq_true', Bool.not_eq_false', Int.not_lt, Int.not_le, Bool.not_true, Bool.not_false, Int.toNat_natCast, bne_iff_ne, beq_iff_eq, ne_eq, Decidable.not_not] at h3)
        refine AWp_seq ?_
        -- region 8 ref.go:216
        refine AWp_regL ?_
        refine st rfl rfl rfl (op_assignO rfl rfl) ?_
        refine AOps_nil ?_
        refine AWp_seq ?_
        -- region 9 ref.go:217
        refine AWp_regL ?_
        refine st rfl rfl rfl (op_assignO rfl rfl) ?_
        refine AOps_nil ?_
        -- region 10 ref.go:218
        refine AWp_regL ?_
        refine st rfl rfl rfl (op_moveO rfl rfl) ?_
        refine st rfl rfl rfl (op_sub64 rfl rfl rfl (by omega) (by omega)) ?_
        refine st rfl rfl rfl (op_assignO rfl rfl) ?_
        refine AOps_nil ?_
        refine AWp_seq ?_
        refine AWp_seq ?_
        -- region 20 ref.go:230
        refine AWp_regL ?_
        refine st rfl rfl rfl (op_moveO rfl rfl) ?_
        refine st rfl rfl rfl (op_moveO rfl rfl) ?_
        refine st rfl rfl rfl (op_add64 rfl rfl rfl (by omega) (by omega)) ?_
        refine st rfl rfl rfl (op_moveO rfl rfl) ?_
        refine st rfl rfl rfl (op_lenStr rfl rfl Tryd.underlying9 rfl) ?_
        refine st rfl rfl rfl (op_gtr rfl rfl rfl) ?_
        refine AOps_nil ?_
        refine AWp_cond rfl (fun h4 => ?_) (fun h4 => ?_)
        · (try rw [h4]); (try simp only [decide_eq_true_eq, decide_eq_false_iff_not, Bool.not_eq_true', Bool.not_eq_false', Int.not_lt, Int.not_le, Bool.not_true, Bool.not_false, Int.toNat_natCast, bne_iff_ne, beq_iff_eq, ne_eq, Decidable.not_not] at h4)
          refine AWp_seq ?_
          -- region 21 ref.go:231
          refine AWp_regL ?_
          refine st rfl rfl rfl (op_assignO rfl rfl) ?_
          refine AOps_nil ?_
          refine AWp_ret ?_
          (try simp only [blockQ, thenQ])
          refine ResQ_10 rfl hcl trivial (Ret_of ?_)
          congr 1
          unfold u8
          first | rw [u8N_1 (by omega)] | rw [u8N_2 (by omega) (by omega)] | rw [u8N_3 (by omega) (by omega) rfl] | rw [u8N_4 (by omega) (by omega) rfl] | rw [u8N_0 (by omega) (by omega)]
          all_goals (try split) <;> omega
        · (try rw [h4]); (try simp only [decide_eq_true_eq, decide_eq_false_iff_not, Bool.not_eq_true', Bool.not_eq_false', Int.not_lt, Int.not_le, Bool.not_true, Bool.not_false, Int.toNat_natCast, bne_iff_ne, beq_iff_eq, ne_eq, Decidable.not_not] at h4)
          refine AWp_skip ?_
          refine AWp_seq ?_
          refine AWp_seq ?_
          -- region 22 ref.go:233
          refine AWp_regL ?_
          refine st rfl rfl rfl (op_assignO rfl rfl) ?_
          refine AOps_nil ?_
          refine AWp_block ?_
          -- loop 0 LIVE 0:param 1:param 4:assign 6:assign 7:assign 8:assign 9:assign
          refine AWp_loop (ι := Nat × Int) (fun p => (p.1 = 1 ∧ p.2 = ((bat s a.toNat).toNat : Int) - 192) ∨ (p.1 = 2 ∧ 128 ≤ ((bat s (a.toNat + 1)).toNat : Int) ∧ ((bat s (a.toNat + 1)).toNat : Int) < 192 ∧ p.2 = (64 * (((bat s a.toNat).toNat : Int) - 192) + (((bat s (a.toNat + 1)).toNat : Int) - 128)))) (fun p => ⟨[], [(0, .str s), (1, .int .i64 a), (6, .int .i64 2), (7, .int .i64 128), (8, .int .i64 p.2), (9, .int .i64 (p.1 : Int))]⟩) (fun p => σ) (fun p => 2 - p.1) ((1, ((bat s a.toNat).toNat : Int) - 192)) (.inl ⟨rfl, rfl⟩) ?_ rfl (fun p hp => ?_)
          · exact ⟨rfl, rfl, rfl, rfl, rfl, rfl, rfl, trivial⟩
          obtain ⟨i, v⟩ := p
          simp only at hp ⊢
          have ci := bat_lt s (a + (i : Int)).toNat
          have k1 : i = 1 → (bat s (a + (i : Int)).toNat).toNat = (bat s (a.toNat + 1)).toNat := fun h => by rw [h]; congr 2; omega
          have k2 : i = 2 → (bat s (a + (i : Int)).toNat).toNat = (bat s (a.toNat + 2)).toNat := fun h => by rw [h]; congr 2; omega
          have k3 : i = 3 → (bat s (a + (i : Int)).toNat).toNat = (bat s (a.toNat + 3)).toNat := fun h => by rw [h]; congr 2; omega
          refine AWp_seq ?_
          refine AWp_seq ?_
          -- region 23 ref.go:233
          refine AWp_regL ?_
          refine st rfl rfl rfl (op_moveO rfl rfl) ?_
          refine st rfl rfl rfl (op_moveO rfl rfl) ?_
          refine st rfl rfl rfl (op_lss rfl rfl rfl) ?_
          refine AOps_nil ?_
          refine AWp_cond rfl (fun h5 => ?_) (fun h5 => ?_)
          · (try rw [h5]); (try simp only [decide_eq_true_eq, decide_eq_false_iff_not, Bool.not_eq_true', Bool.not_eq_false', Int.not_lt, Int.not_le, Bool.not_true, Bool.not_false, Int.toNat_natCast, bne_iff_ne, beq_iff_eq, ne_eq, Decidable.not_not] at h5)
            refine AWp_skip ?_
            refine AWp_seq ?_
            refine AWp_block ?_
            refine AWp_seq ?_
            -- region 25 ref.go:234
            refine AWp_regL ?_
            refine st rfl rfl rfl (op_moveO rfl rfl) ?_
            refine st rfl rfl rfl (op_moveO rfl rfl) ?_
            refine st rfl rfl rfl (op_moveO rfl rfl) ?_
            refine st rfl rfl rfl (op_add64 rfl rfl rfl (by omega) (by omega)) ?_
            refine st rfl rfl rfl (op_index_strB rfl Tryd.underlying9 rfl rfl (by omega) (by omega)) ?_
            refine st rfl rfl rfl (op_convIn rfl (by rw [Tryd.underlying5]; rfl) Tryd.underlying3 rfl (by first | rfl | exact wrap64_in (by omega) (by omega) | (simp only [IntKind.wrap]; omega))) ?_
            refine st rfl rfl rfl (op_assignO rfl rfl) ?_
            refine AOps_nil ?_
            refine AWp_seq ?_
            refine AWp_seq ?_
            -- region 26 ref.go:235
            refine AWp_regL ?_
            refine st rfl rfl rfl (op_moveO rfl rfl) ?_
            refine st rfl rfl rfl (op_lss rfl rfl rfl) ?_
            refine st rfl rfl rfl (op_moveO rfl rfl) ?_
            refine AOps_split 60 rfl (fun h6 => ?_) (fun h6 => ?_)
            · rw [h6]; (try simp only [decide_eq_true_eq, decide_eq_false_iff_not, Bool.not_eq_true', Bool.not_eq_false', Int.not_lt, Int.not_le, Bool.not_true, Bool.not_false, Int.toNat_natCast, bne_iff_ne, beq_iff_eq, ne_eq, Decidable.not_not] at h6)
              refine stS rfl rfl rfl (.inl rfl) rfl rfl ?_
              refine stS rfl rfl rfl (.inl rfl) rfl rfl ?_
              refine st rfl rfl rfl (op_pickTO rfl rfl rfl) ?_
              refine AOps_nil ?_
              refine AWp_condT rfl ?_
              refine AWp_seq ?_
              -- region 27 ref.go:236
              refine AWp_regL ?_
              refine st rfl rfl rfl (op_assignO rfl rfl) ?_
              refine AOps_nil ?_
              refine AWp_ret ?_
              (try simp only [blockQ, thenQ])
              refine ResQ_10 rfl hcl trivial (Ret_of ?_)
              congr 1
              unfold u8
              first | rw [u8N_1 (by omega)] | rw [u8N_2 (by omega) (by omega)] | rw [u8N_3 (by omega) (by omega) rfl] | rw [u8N_4 (by omega) (by omega) rfl] | rw [u8N_0 (by omega) (by omega)]
              all_goals (try split) <;> omega
            · rw [h6]; (try simp only [decide_eq_true_eq, decide_eq_false_iff_not, Bool.not_eq_true', Bool.not_eq_false', Int.not_lt, Int.not_le, Bool.not_true, Bool.not_false, Int.toNat_natCast, bne_iff_ne, beq_iff_eq, ne_eq, Decidable.not_not] at h6)
              refine stG rfl rfl rfl rfl rfl rfl (op_moveO rfl rfl) ?_
              refine stG rfl rfl rfl rfl rfl rfl (op_geq rfl rfl rfl) ?_
              refine st rfl rfl rfl (op_pickFO rfl rfl rfl) ?_
              refine AOps_nil ?_
              refine AWp_cond rfl (fun h7 => ?_) (fun h7 => ?_)
              · (try rw [h7]); (try simp only [decide_eq_true_eq, decide_eq_false_iff_not, Bool.not_eq_true', Bool.not_eq_false', Int.not_lt, Int.not_le, Bool.not_true, Bool.not_false, Int.toNat_natCast, bne_iff_ne, beq_iff_eq, ne_eq, Decidable.not_not] at h7)
                refine AWp_seq ?_
                -- region 27 ref.go:236
                refine AWp_regL ?_
                refine st rfl rfl rfl (op_assignO rfl rfl) ?_
                refine AOps_nil ?_
                refine AWp_ret ?_
                (try simp only [blockQ, thenQ])
                refine ResQ_10 rfl hcl trivial (Ret_of ?_)
                congr 1
                unfold u8
                first | rw [u8N_1 (by omega)] | rw [u8N_2 (by omega) (by omega)] | rw [u8N_3 (by omega) (by omega) rfl] | rw [u8N_4 (by omega) (by omega) rfl] | rw [u8N_0 (by omega) (by omega)]
                all_goals (try split) <;> omega
              · (try rw [h7]); (try simp only [decide_eq_true_eq, decide_eq_false_iff_not, Bool.not_eq_true', Bool.not_eq_false', Int.not_lt, Int.not_le, Bool.not_true, Bool.not_false, Int.toNat_natCast, bne_iff_ne, beq_iff_eq, ne_eq, Decidable.not_not] at h7)
                refine AWp_skip ?_
                -- region 28 ref.go:238
                refine AWp_regL ?_
                refine st rfl rfl rfl (op_moveO rfl rfl) ?_
                refine st rfl rfl rfl (op_mul64 rfl rfl rfl (by omega) (by omega)) ?_
                refine st rfl rfl rfl (op_moveO rfl rfl) ?_
                refine st rfl rfl rfl (op_add64 rfl rfl rfl (by omega) (by omega)) ?_
                refine st rfl rfl rfl (op_sub64 rfl rfl rfl (by omega) (by omega)) ?_
                refine st rfl rfl rfl (op_assignO rfl rfl) ?_
                refine AOps_nil ?_
                -- region 24 ref.go:233
                refine AWp_regL ?_
                refine st rfl rfl rfl (op_moveO rfl rfl) ?_
                refine st rfl rfl rfl (op_add64 rfl rfl rfl (by omega) (by omega)) ?_
                refine st rfl rfl rfl (op_assignO rfl rfl) ?_
                refine AOps_nil ?_
                refine ⟨(i + 1, _), σ.length, ?_, ?_, Nat.le_refl _, ⟨rfl, rfl, rfl, rfl, rfl, rfl, rfl, trivial⟩, hcl, ?_, List.take_length⟩
                · simp only; omega
                · simp only; omega
                · simp [ltE, AV.lt]
          · (try rw [h5]); (try simp only [decide_eq_true_eq, decide_eq_false_iff_not, Bool.not_eq_true', Bool.not_eq_false', Int.not_lt, Int.not_le, Bool.not_true, Bool.not_false, Int.toNat_natCast, bne_iff_ne, beq_iff_eq, ne_eq, Decidable.not_not] at h5)
            refine AWp_exit ?_
            refine AWp_seq ?_
            refine AWp_seq ?_
            -- region 29 ref.go:240
            refine AWp_regL ?_
            refine st rfl rfl rfl (op_moveO rfl rfl) ?_
            refine st rfl rfl rfl (op_moveO rfl rfl) ?_
            refine st rfl rfl rfl (op_lss rfl rfl rfl) ?_
            refine st rfl rfl rfl (op_moveO rfl rfl) ?_
            refine AOps_split 72 rfl (fun h8 => ?_) (fun h8 => ?_)
            · rw [h8]; (try simp only [decide_eq_true_eq, decide_eq_false_iff_not, Bool.not_eq_true', Bool.not_eq_false', Int.not_lt, Int.not_le, Bool.not_true, Bool.not_false, Int.toNat_natCast, bne_iff_ne, beq_iff_eq, ne_eq, Decidable.not_not] at h8)
              refine stS rfl rfl rfl (.inl rfl) rfl rfl ?_
              refine stS rfl rfl rfl (.inl rfl) rfl rfl ?_
              refine st rfl rfl rfl (op_pickTO rfl rfl rfl) ?_
              refine st rfl rfl rfl (op_moveO rfl rfl) ?_
              refine stS rfl rfl rfl (.inl rfl) rfl rfl ?_
              refine stS rfl rfl rfl (.inl rfl) rfl rfl ?_
              refine stS rfl rfl rfl (.inl rfl) rfl rfl ?_
              refine stS rfl rfl rfl (.inr rfl) rfl rfl ?_
              refine stS rfl rfl rfl (.inr rfl) rfl rfl ?_
              refine stS rfl rfl rfl (.inl rfl) rfl rfl ?_
              refine st rfl rfl rfl (op_pickTO rfl rfl rfl) ?_
              refine AOps_nil ?_
              refine AWp_condT rfl ?_
              refine AWp_seq ?_
              -- region 30 ref.go:241
              refine AWp_regL ?_
              refine st rfl rfl rfl (op_assignO rfl rfl) ?_
              refine AOps_nil ?_
              refine AWp_ret ?_
              (try simp only [blockQ, thenQ])
              refine ResQ_10 rfl hcl trivial (Ret_of ?_)
              congr 1
              unfold u8
              first | rw [u8N_1 (by omega)] | rw [u8N_2 (by omega) (by omega)] | rw [u8N_3 (by omega) (by omega) rfl] | rw [u8N_4 (by omega) (by omega) rfl] | rw [u8N_0 (by omega) (by omega)]
              all_goals (try split) <;> omega
            · rw [h8]; (try simp only [decide_eq_true_eq, decide_eq_false_iff_not, Bool.not_eq_true', Bool.not_eq_false', Int.not_lt, Int.not_le, Bool.not_true, Bool.not_false, Int.toNat_natCast, bne_iff_ne, beq_iff_eq, ne_eq, Decidable.not_not] at h8)
              refine stG rfl rfl rfl rfl rfl rfl (op_moveO rfl rfl) ?_
              refine stG rfl rfl rfl rfl rfl rfl (op_gtr rfl rfl rfl) ?_
              refine st rfl rfl rfl (op_pickFO rfl rfl rfl) ?_
              refine st rfl rfl rfl (op_moveO rfl rfl) ?_
              refine AOps_split 76 rfl (fun h9 => ?_) (fun h9 => ?_)
              · rw [h9]; (try simp only [decide_eq_true_eq, decide_eq_false_iff_not, Bool.not_eq_true', Bool.not_eq_false', Int.not_lt, Int.not_le, Bool.not_true, Bool.not_false, Int.toNat_natCast, bne_iff_ne, beq_iff_eq, ne_eq, Decidable.not_not] at h9)
                refine stS rfl rfl rfl (.inl rfl) rfl rfl ?_
                refine stS rfl rfl rfl (.inl rfl) rfl rfl ?_
                refine stS rfl rfl rfl (.inl rfl) rfl rfl ?_
                refine stS rfl rfl rfl (.inr rfl) rfl rfl ?_
                refine stS rfl rfl rfl (.inr rfl) rfl rfl ?_
                refine stS rfl rfl rfl (.inl rfl) rfl rfl ?_
                refine st rfl rfl rfl (op_pickTO rfl rfl rfl) ?_
                refine AOps_nil ?_
                refine AWp_condT rfl ?_
                refine AWp_seq ?_
                -- region 30 ref.go:241
                refine AWp_regL ?_
                refine st rfl rfl rfl (op_assignO rfl rfl) ?_
                refine AOps_nil ?_
                refine AWp_ret ?_
                (try simp only [blockQ, thenQ])
                refine ResQ_10 rfl hcl trivial (Ret_of ?_)
                congr 1
                unfold u8
                first | rw [u8N_1 (by omega)] | rw [u8N_2 (by omega) (by omega)] | rw [u8N_3 (by omega) (by omega) rfl] | rw [u8N_4 (by omega) (by omega) rfl] | rw [u8N_0 (by omega) (by omega)]
                all_goals (try split) <;> omega
              · rw [h9]; (try simp only [decide_eq_true_eq, decide_eq_false_iff_not, Bool.not_eq_true', Bool.not_eq_false', Int.not_lt, Int.not_le, Bool.not_true, Bool.not_false, Int.toNat_natCast, bne_iff_ne, beq_iff_eq, ne_eq, Decidable.not_not] at h9)
                refine stG rfl rfl rfl rfl rfl rfl (op_moveO rfl rfl) ?_
                refine stG rfl rfl rfl rfl rfl rfl (op_geq rfl rfl rfl) ?_
                refine stG rfl rfl rfl rfl rfl rfl (op_moveO rfl rfl) ?_
                refine AOps_split 79 rfl (fun h10 => ?_) (fun h10 => ?_)
                · rw [h10]; (try simp only [decide_eq_true_eq, decide_eq_false_iff_not, Bool.not_eq_true', Bool.not_eq_false', Int.not_lt, Int.not_le, Bool.not_true, Bool.not_false, Int.toNat_natCast, bne_iff_ne, beq_iff_eq, ne_eq, Decidable.not_not] at h10)
                  refine stG rfl rfl rfl rfl rfl rfl (op_moveO rfl rfl) ?_
                  refine stG rfl rfl rfl rfl rfl rfl (op_lss rfl rfl rfl) ?_
                  refine stG rfl rfl rfl rfl rfl rfl (op_pickTO rfl rfl rfl) ?_
                  refine st rfl rfl rfl (op_pickFO rfl rfl rfl) ?_
                  refine AOps_nil ?_
                  refine AWp_cond rfl (fun h11 => ?_) (fun h11 => ?_)
                  · (try rw [h11]); (try simp only [decide_eq_true_eq, decide_eq_false_iff_not, Bool.not_eq_true', Bool.not_eq_false', Int.not_lt, Int.not_le, Bool.not_true, Bool.not_false, Int.toNat_natCast, bne_iff_ne, beq_iff_eq, ne_eq, Decidable.not_not] at h11)
                    refine AWp_seq ?_
                    -- region 30 ref.go:241
                    refine AWp_regL ?_
                    refine st rfl rfl rfl (op_assignO rfl rfl) ?_
                    refine AOps_nil ?_
                    refine AWp_ret ?_
                    (try simp only [blockQ, thenQ])
                    refine ResQ_10 rfl hcl trivial (Ret_of ?_)
                    congr 1
                    unfold u8
                    first | rw [u8N_1 (by omega)] | rw [u8N_2 (by omega) (by omega)] | rw [u8N_3 (by omega) (by omega) rfl] | rw [u8N_4 (by omega) (by omega) rfl] | rw [u8N_0 (by omega) (by omega)]
                    all_goals (try split) <;> omega
                  · (try rw [h11]); (try simp only [decide_eq_true_eq, decide_eq_false_iff_not, Bool.not_eq_true', Bool.not_eq_false', Int.not_lt, Int.not_le, Bool.not_true, Bool.not_false, Int.toNat_natCast, bne_iff_ne, beq_iff_eq, ne_eq, Decidable.not_not] at h11)
                    refine AWp_skip ?_
                    refine AWp_seq ?_
                    -- region 31 ref.go:243
                    refine AWp_regL ?_
                    refine st rfl rfl rfl (op_moveO rfl rfl) ?_
                    refine st rfl rfl rfl (op_assignO rfl rfl) ?_
                    refine AOps_nil ?_
                    refine AWp_ret ?_
                    (try simp only [blockQ, thenQ])
                    refine ResQ_10 rfl hcl trivial (Ret_of ?_)
                    congr 1
                    unfold u8
                    first | rw [u8N_1 (by omega)] | rw [u8N_2 (by omega) (by omega)] | rw [u8N_3 (by omega) (by omega) rfl] | rw [u8N_4 (by omega) (by omega) rfl] | rw [u8N_0 (by omega) (by omega)]
                    all_goals (try split) <;> omega
                · rw [h10]; (try simp only [decide_eq_true_eq, decide_eq_false_iff_not, Bool.not_eq_true', Bool.not_eq_false', Int.not_lt, Int.not_le, Bool.not_true, Bool.not_false, Int.toNat_natCast, bne_iff_ne, beq_iff_eq, ne_eq, Decidable.not_not] at h10)
                  refine stS rfl rfl rfl (.inl rfl) rfl rfl ?_
                  refine stS rfl rfl rfl (.inl rfl) rfl rfl ?_
                  refine stG rfl rfl rfl rfl rfl rfl (op_pickFO rfl rfl rfl) ?_
                  refine st rfl rfl rfl (op_pickFO rfl rfl rfl) ?_
                  refine AOps_nil ?_
                  refine AWp_condF rfl ?_
                  refine AWp_skip ?_
                  refine AWp_seq ?_
                  -- region 31 ref.go:243
                  refine AWp_regL ?_
                  refine st rfl rfl rfl (op_moveO rfl rfl) ?_
                  refine st rfl rfl rfl (op_assignO rfl rfl) ?_
                  refine AOps_nil ?_
                  refine AWp_ret ?_
                  (try simp only [blockQ, thenQ])
                  refine ResQ_10 rfl hcl trivial (Ret_of ?_)
                  congr 1
                  unfold u8
                  first | rw [u8N_1 (by omega)] | rw [u8N_2 (by omega) (by omega)] | rw [u8N_3 (by omega) (by omega) rfl] | rw [u8N_4 (by omega) (by omega) rfl] | rw [u8N_0 (by omega) (by omega)]
                  all_goals (try split) <;> omega
      · (try rw [h3]); (try simp only [decide_eq_true_eq, decide_eq_false_iff_not, Bool.not_eq_true', Bool.not_eq_false', Int.not_lt, Int.not_le, Bool.not_true, Bool.not_false, Int.toNat_natCast, bne_iff_ne, beq_iff_eq, ne_eq, Decidable.not_not] at h3)
        refine AWp_seq ?_
        -- region 11 ref.go:219
        refine AWp_regL ?_
        refine st rfl rfl rfl (op_moveO rfl rfl) ?_
        refine st rfl rfl rfl (op_geq rfl rfl rfl) ?_
        refine st rfl rfl rfl (op_moveO rfl rfl) ?_
        refine AOps_split 27 rfl (fun h12 => ?_) (fun h12 => ?_)
        · rw [h12]; (try simp only [decide_eq_true_eq, decide_eq_false_iff_not, Bool.not_eq_true', Bool.not_eq_false', Int.not_lt, Int.not_le, Bool.not_true, Bool.not_false, Int.toNat_natCast, bne_iff_ne, beq_iff_eq, ne_eq, Decidable.not_not] at h12)
          refine stG rfl rfl rfl rfl rfl rfl (op_moveO rfl rfl) ?_
          refine stG rfl rfl rfl rfl rfl rfl (op_lss rfl rfl rfl) ?_
          refine st rfl rfl rfl (op_pickTO rfl rfl rfl) ?_
          refine AOps_nil ?_
          refine AWp_cond rfl (fun h13 => ?_) (fun h13 => ?_)
          · (try rw [h13]); (try simp only [decide_eq_true_eq, decide_eq_false_iff_not, Bool.not_eq_true', Bool.not_eq_false', Int.not_lt, Int.not_le, Bool.not_true, Bool.not_false, Int.toNat_natCast, bne_iff_ne, beq_iff_eq, ne_eq, Decidable.not_not] at h13)
            refine AWp_seq ?_
            -- region 12 ref.go:220
            refine AWp_regL ?_
            refine st rfl rfl rfl (op_assignO rfl rfl) ?_
            refine AOps_nil ?_
            refine AWp_seq ?_
            -- region 13 ref.go:221
            refine AWp_regL ?_
            refine st rfl rfl rfl (op_assignO rfl rfl) ?_
            refine AOps_nil ?_
            -- region 14 ref.go:222
            refine AWp_regL ?_
            refine st rfl rfl rfl (op_moveO rfl rfl) ?_
            refine st rfl rfl rfl (op_sub64 rfl rfl rfl (by omega) (by omega)) ?_
            refine st rfl rfl rfl (op_assignO rfl rfl) ?_
            refine AOps_nil ?_
            refine AWp_seq ?_
            refine AWp_seq ?_
            -- region 20 ref.go:230
            refine AWp_regL ?_
            refine st rfl rfl rfl (op_moveO rfl rfl) ?_
            refine st rfl rfl rfl (op_moveO rfl rfl) ?_
            refine st rfl rfl rfl (op_add64 rfl rfl rfl (by omega) (by omega)) ?_
            refine st rfl rfl rfl (op_moveO rfl rfl) ?_
            refine st rfl rfl rfl (op_lenStr rfl rfl Tryd.underlying9 rfl) ?_
            refine st rfl rfl rfl (op_gtr rfl rfl rfl) ?_
            refine AOps_nil ?_
            refine AWp_cond rfl (fun h14 => ?_) (fun h14 => ?_)
            · (try rw [h14]); (try simp only [decide_eq_true_eq, decide_eq_false_iff_not, Bool.not_eq_true', Bool.not_eq_false', Int.not_lt, Int.not_le, Bool.not_true, Bool.not_false, Int.toNat_natCast, bne_iff_ne, beq_iff_eq, ne_eq, Decidable.not_not] at h14)
              refine AWp_seq ?_
              -- region 21 ref.go:231
              refine AWp_regL ?_
              refine st rfl rfl rfl (op_assignO rfl rfl) ?_
              refine AOps_nil ?_
              refine AWp_ret ?_
              (try simp only [blockQ, thenQ])
              refine ResQ_10 rfl hcl trivial (Ret_of ?_)
              congr 1
              unfold u8
              first | rw [u8N_1 (by omega)] | rw [u8N_2 (by omega) (by omega)] | rw [u8N_3 (by omega) (by omega) rfl] | rw [u8N_4 (by omega) (by omega) rfl] | rw [u8N_0 (by omega) (by omega)]
              all_goals (try split) <;> omega
            · (try rw [h14]); (try simp only [decide_eq_true_eq, decide_eq_false_iff_not, Bool.not_eq_true', Bool.not_eq_false', Int.not_lt, Int.not_le, Bool.not_true, Bool.not_false, Int.toNat_natCast, bne_iff_ne, beq_iff_eq, ne_eq, Decidable.not_not] at h14)
              refine AWp_skip ?_
              refine AWp_seq ?_
              refine AWp_seq ?_
              -- region 22 ref.go:233
              refine AWp_regL ?_
              refine st rfl rfl rfl (op_assignO rfl rfl) ?_
              refine AOps_nil ?_
              refine AWp_block ?_
              -- loop 1 LIVE 0:param 1:param 4:assign 6:assign 7:assign 8:assign 9:assign
              refine AWp_loop (ι := Nat × Int) (fun p => (p.1 = 1 ∧ p.2 = ((bat s a.toNat).toNat : Int) - 224) ∨ (p.1 = 2 ∧ 128 ≤ ((bat s (a.toNat + 1)).toNat : Int) ∧ ((bat s (a.toNat + 1)).toNat : Int) < 192 ∧ p.2 = (64 * (((bat s a.toNat).toNat : Int) - 224) + (((bat s (a.toNat + 1)).toNat : Int) - 128))) ∨ (p.1 = 3 ∧ 128 ≤ ((bat s (a.toNat + 1)).toNat : Int) ∧ ((bat s (a.toNat + 1)).toNat : Int) < 192 ∧ 128 ≤ ((bat s (a.toNat + 2)).toNat : Int) ∧ ((bat s (a.toNat + 2)).toNat : Int) < 192 ∧ p.2 = (64 * (64 * (((bat s a.toNat).toNat : Int) - 224) + (((bat s (a.toNat + 1)).toNat : Int) - 128)) + (((bat s (a.toNat + 2)).toNat : Int) - 128)))) (fun p => ⟨[], [(0, .str s), (1, .int .i64 a), (6, .int .i64 3), (7, .int .i64 2048), (8, .int .i64 p.2), (9, .int .i64 (p.1 : Int))]⟩) (fun p => σ) (fun p => 3 - p.1) ((1, ((bat s a.toNat).toNat : Int) - 224)) (.inl ⟨rfl, rfl⟩) ?_ rfl (fun p hp => ?_)
              · exact ⟨rfl, rfl, rfl, rfl, rfl, rfl, rfl, trivial⟩
              obtain ⟨i, v⟩ := p
              simp only at hp ⊢
              have ci := bat_lt s (a + (i : Int)).toNat
              have k1 : i = 1 → (bat s (a + (i : Int)).toNat).toNat = (bat s (a.toNat + 1)).toNat := fun h => by rw [h]; congr 2; omega
              have k2 : i = 2 → (bat s (a + (i : Int)).toNat).toNat = (bat s (a.toNat + 2)).toNat := fun h => by rw [h]; congr 2; omega
              have k3 : i = 3 → (bat s (a + (i : Int)).toNat).toNat = (bat s (a.toNat + 3)).toNat := fun h => by rw [h]; congr 2; omega
              refine AWp_seq ?_
              refine AWp_seq ?_
              -- region 23 ref.go:233
              refine AWp_regL ?_
              refine st rfl rfl rfl (op_moveO rfl rfl) ?_
              refine st rfl rfl rfl (op_moveO rfl rfl) ?_
              refine st rfl rfl rfl (op_lss rfl rfl rfl) ?_
              refine AOps_nil ?_
              refine AWp_cond rfl (fun h15 => ?_) (fun h15 => ?_)
              · (try rw [h15]); (try simp only [decide_eq_true_eq, decide_eq_false_iff_not, Bool.not_eq_true', Bool.not_eq_false', Int.not_lt, Int.not_le, Bool.not_true, Bool.not_false, Int.toNat_natCast, bne_iff_ne, beq_iff_eq, ne_eq, Decidable.not_not] at h15)
                refine AWp_skip ?_
                refine AWp_seq ?_
                refine AWp_block ?_
                refine AWp_seq ?_
                -- region 25 ref.go:234
                refine AWp_regL ?_
                refine st rfl rfl rfl (op_moveO rfl rfl) ?_
                refine st rfl rfl rfl (op_moveO rfl rfl) ?_
                refine st rfl rfl rfl (op_moveO rfl rfl) ?_
                refine st rfl rfl rfl (op_add64 rfl rfl rfl (by omega) (by omega)) ?_
                refine st rfl rfl rfl (op_index_strB rfl Tryd.underlying9 rfl rfl (by omega) (by omega)) ?_
                refine st rfl rfl rfl (op_convIn rfl (by rw [Tryd.underlying5]; rfl) Tryd.underlying3 rfl (by first | rfl | exact wrap64_in (by omega) (by omega) | (simp only [IntKind.wrap]; omega))) ?_
                refine st rfl rfl rfl (op_assignO rfl rfl) ?_
                refine AOps_nil ?_
                refine AWp_seq ?_
                refine AWp_seq ?_
                -- region 26 ref.go:235
                refine AWp_regL ?_
                refine st rfl rfl rfl (op_moveO rfl rfl) ?_
                refine st rfl rfl rfl (op_lss rfl rfl rfl) ?_
                refine st rfl rfl rfl (op_moveO rfl rfl) ?_
                refine AOps_split 60 rfl (fun h16 => ?_) (fun h16 => ?_)
                · rw [h16]; (try simp only [decide_eq_true_eq, decide_eq_false_iff_not, Bool.not_eq_true', Bool.not_eq_false', Int.not_lt, Int.not_le, Bool.not_true, Bool.not_false, Int.toNat_natCast, bne_iff_ne, beq_iff_eq, ne_eq, Decidable.not_not] at h16)
                  refine stS rfl rfl rfl (.inl rfl) rfl rfl ?_
                  refine stS rfl rfl rfl (.inl rfl) rfl rfl ?_
                  refine st rfl rfl rfl (op_pickTO rfl rfl rfl) ?_
                  refine AOps_nil ?_
                  refine AWp_condT rfl ?_
                  refine AWp_seq ?_
                  -- region 27 ref.go:236
                  refine AWp_regL ?_
                  refine st rfl rfl rfl (op_assignO rfl rfl) ?_
                  refine AOps_nil ?_
                  refine AWp_ret ?_
                  (try simp only [blockQ, thenQ])
                  refine ResQ_10 rfl hcl trivial (Ret_of ?_)
                  congr 1
                  unfold u8
                  first | rw [u8N_1 (by omega)] | rw [u8N_2 (by omega) (by omega)] | rw [u8N_3 (by omega) (by omega) rfl] | rw [u8N_4 (by omega) (by omega) rfl] | rw [u8N_0 (by omega) (by omega)]
                  all_goals (try split) <;> omega
                · rw [h16]; (try simp only [decide_eq_true_eq, decide_eq_false_iff_not, Bool.not_eq_true', Bool.not_eq_false', Int.not_lt, Int.not_le, Bool.not_true, Bool.not_false, Int.toNat_natCast, bne_iff_ne, beq_iff_eq, ne_eq, Decidable.not_not] at h16)
                  refine stG rfl rfl rfl rfl rfl rfl (op_moveO rfl rfl) ?_
                  refine stG rfl rfl rfl rfl rfl rfl (op_geq rfl rfl rfl) ?_
                  refine st rfl rfl rfl (op_pickFO rfl rfl rfl) ?_
                  refine AOps_nil ?_
                  refine AWp_cond rfl (fun h17 => ?_) (fun h17 => ?_)
                  · (try rw [h17]); (try simp only [decide_eq_true_eq, decide_eq_false_iff_not, Bool.not_eq_true', Bool.not_eq_false', Int.not_lt, Int.not_le, Bool.not_true, Bool.not_false, Int.toNat_natCast, bne_iff_ne, beq_iff_eq, ne_eq, Decidable.not_not] at h17)
                    refine AWp_seq ?_
                    -- region 27 ref.go:236
                    refine AWp_regL ?_
                    refine st rfl rfl rfl (op_assignO rfl rfl) ?_
                    refine AOps_nil ?_
                    refine AWp_ret ?_
                    (try simp only [blockQ, thenQ])
                    refine ResQ_10 rfl hcl trivial (Ret_of ?_)
                    congr 1
                    unfold u8
                    first | rw [u8N_1 (by omega)] | rw [u8N_2 (by omega) (by omega)] | rw [u8N_3 (by omega) (by omega) rfl] | rw [u8N_4 (by omega) (by omega) rfl] | rw [u8N_0 (by omega) (by omega)]
                    all_goals (try split) <;> omega
                  · (try rw [h17]); (try simp only [decide_eq_true_eq, decide_eq_false_iff_not, Bool.not_eq_true', Bool.not_eq_false', Int.not_lt, Int.not_le, Bool.not_true, Bool.not_false, Int.toNat_natCast, bne_iff_ne, beq_iff_eq, ne_eq, Decidable.not_not] at h17)
                    refine AWp_skip ?_
                    -- region 28 ref.go:238
                    refine AWp_regL ?_
                    refine st rfl rfl rfl (op_moveO rfl rfl) ?_
                    refine st rfl rfl rfl (op_mul64 rfl rfl rfl (by omega) (by omega)) ?_
                    refine st rfl rfl rfl (op_moveO rfl rfl) ?_
                    refine st rfl rfl rfl (op_add64 rfl rfl rfl (by omega) (by omega)) ?_
                    refine st rfl rfl rfl (op_sub64 rfl rfl rfl (by omega) (by omega)) ?_
                    refine st rfl rfl rfl (op_assignO rfl rfl) ?_
                    refine AOps_nil ?_
                    -- region 24 ref.go:233
                    refine AWp_regL ?_
                    refine st rfl rfl rfl (op_moveO rfl rfl) ?_
                    refine st rfl rfl rfl (op_add64 rfl rfl rfl (by omega) (by omega)) ?_
                    refine st rfl rfl rfl (op_assignO rfl rfl) ?_
                    refine AOps_nil ?_
                    refine ⟨(i + 1, _), σ.length, ?_, ?_, Nat.le_refl _, ⟨rfl, rfl, rfl, rfl, rfl, rfl, rfl, trivial⟩, hcl, ?_, List.take_length⟩
                    · simp only; omega
                    · simp only; omega
                    · simp [ltE, AV.lt]
              · (try rw [h15]); (try simp only [decide_eq_true_eq, decide_eq_false_iff_not, Bool.not_eq_true', Bool.not_eq_false', Int.not_lt, Int.not_le, Bool.not_true, Bool.not_false, Int.toNat_natCast, bne_iff_ne, beq_iff_eq, ne_eq, Decidable.not_not] at h15)
                refine AWp_exit ?_
                refine AWp_seq ?_
                refine AWp_seq ?_
                -- region 29 ref.go:240
                refine AWp_regL ?_
                refine st rfl rfl rfl (op_moveO rfl rfl) ?_
                refine st rfl rfl rfl (op_moveO rfl rfl) ?_
                refine st rfl rfl rfl (op_lss rfl rfl rfl) ?_
                refine st rfl rfl rfl (op_moveO rfl rfl) ?_
                refine AOps_split 72 rfl (fun h18 => ?_) (fun h18 => ?_)
                · rw [h18]; (try simp only [decide_eq_true_eq, decide_eq_false_iff_not, Bool.not_eq_true', Bool.not_eq_false', Int.not_lt, Int.not_le, Bool.not_true, Bool.not_false, Int.toNat_natCast, bne_iff_ne, beq_iff_eq, ne_eq, Decidable.not_not] at h18)
                  refine stS rfl rfl rfl (.inl rfl) rfl rfl ?_
                  refine stS rfl rfl rfl (.inl rfl) rfl rfl ?_
                  refine st rfl rfl rfl (op_pickTO rfl rfl rfl) ?_
                  refine st rfl rfl rfl (op_moveO rfl rfl) ?_
                  refine stS rfl rfl rfl (.inl rfl) rfl rfl ?_
                  refine stS rfl rfl rfl (.inl rfl) rfl rfl ?_
                  refine stS rfl rfl rfl (.inl rfl) rfl rfl ?_
                  refine stS rfl rfl rfl (.inr rfl) rfl rfl ?_
                  refine stS rfl rfl rfl (.inr rfl) rfl rfl ?_
                  refine stS rfl rfl rfl (.inl rfl) rfl rfl ?_
                  refine st rfl rfl rfl (op_pickTO rfl rfl rfl) ?_
                  refine AOps_nil ?_
                  refine AWp_condT rfl ?_
                  refine AWp_seq ?_
                  -- region 30 ref.go:241
                  refine AWp_regL ?_
                  refine st rfl rfl rfl (op_assignO rfl rfl) ?_
                  refine AOps_nil ?_
                  refine AWp_ret ?_
                  (try simp only [blockQ, thenQ])
                  refine ResQ_10 rfl hcl trivial (Ret_of ?_)
                  congr 1
                  unfold u8
                  first | rw [u8N_1 (by omega)] | rw [u8N_2 (by omega) (by omega)] | rw [u8N_3 (by omega) (by omega) rfl] | rw [u8N_4 (by omega) (by omega) rfl] | rw [u8N_0 (by omega) (by omega)]
                  all_goals (try split) <;> omega
                · rw [h18]; (try simp only [decide_eq_true_eq, decide_eq_false_iff_not, Bool.not_eq_true', Bool.not_eq_false', Int.not_lt, Int.not_le, Bool.not_true, Bool.not_false, Int.toNat_natCast, bne_iff_ne, beq_iff_eq, ne_eq, Decidable.not_not] at h18)
                  refine stG rfl rfl rfl rfl rfl rfl (op_moveO rfl rfl) ?_
                  refine stG rfl rfl rfl rfl rfl rfl (op_gtr rfl rfl rfl) ?_
                  refine st rfl rfl rfl (op_pickFO rfl rfl rfl) ?_
                  refine st rfl rfl rfl (op_moveO rfl rfl) ?_
                  refine AOps_split 76 rfl (fun h19 => ?_) (fun h19 => ?_)
                  · rw [h19]; (try simp only [decide_eq_true_eq, decide_eq_false_iff_not, Bool.not_eq_true', Bool.not_eq_false', Int.not_lt, Int.not_le, Bool.not_true, Bool.not_false, Int.toNat_natCast, bne_iff_ne, beq_iff_eq, ne_eq, Decidable.not_not] at h19)
                    refine stS rfl rfl rfl (.inl rfl) rfl rfl ?_
                    refine stS rfl rfl rfl (.inl rfl) rfl rfl ?_
                    refine stS rfl rfl rfl (.inl rfl) rfl rfl ?_
                    refine stS rfl rfl rfl (.inr rfl) rfl rfl ?_
                    refine stS rfl rfl rfl (.inr rfl) rfl rfl ?_
                    refine stS rfl rfl rfl (.inl rfl) rfl rfl ?_
                    refine st rfl rfl rfl (op_pickTO rfl rfl rfl) ?_
                    refine AOps_nil ?_
                    refine AWp_condT rfl ?_
                    refine AWp_seq ?_
                    -- region 30 ref.go:241
                    refine AWp_regL ?_
                    refine st rfl rfl rfl (op_assignO rfl rfl) ?_
                    refine AOps_nil ?_
                    refine AWp_ret ?_
                    (try simp only [blockQ, thenQ])
                    refine ResQ_10 rfl hcl trivial (Ret_of ?_)
                    congr 1
                    unfold u8
                    first | rw [u8N_1 (by omega)] | rw [u8N_2 (by omega) (by omega)] | rw [u8N_3 (by omega) (by omega) rfl] | rw [u8N_4 (by omega) (by omega) rfl] | rw [u8N_0 (by omega) (by omega)]
                    all_goals (try split) <;> omega
                  · rw [h19]; (try simp only [decide_eq_true_eq, decide_eq_false_iff_not, Bool.not_eq_true', Bool.not_eq_false', Int.not_lt, Int.not_le, Bool.not_true, Bool.not_false, Int.toNat_natCast, bne_iff_ne, beq_iff_eq, ne_eq, Decidable.not_not] at h19)
                    refine stG rfl rfl rfl rfl rfl rfl (op_moveO rfl rfl) ?_
                    refine stG rfl rfl rfl rfl rfl rfl (op_geq rfl rfl rfl) ?_
                    refine stG rfl rfl rfl rfl rfl rfl (op_moveO rfl rfl) ?_
                    refine AOps_split 79 rfl (fun h20 => ?_) (fun h20 => ?_)
                    · rw [h20]; (try simp only [decide_eq_true_eq, decide_eq_false_iff_not, Bool.not_eq_true', Bool.not_eq_false', Int.not_lt, Int.not_le, Bool.not_true, Bool.not_false, Int.toNat_natCast, bne_iff_ne, beq_iff_eq, ne_eq, Decidable.not_not] at h20)
                      refine stG rfl rfl rfl rfl rfl rfl (op_moveO rfl rfl) ?_
                      refine stG rfl rfl rfl rfl rfl rfl (op_lss rfl rfl rfl) ?_
                      refine stG rfl rfl rfl rfl rfl rfl (op_pickTO rfl rfl rfl) ?_
                      refine st rfl rfl rfl (op_pickFO rfl rfl rfl) ?_
                      refine AOps_nil ?_
                      refine AWp_cond rfl (fun h21 => ?_) (fun h21 => ?_)
                      · (try rw [h21]); (try simp only [decide_eq_true_eq, decide_eq_false_iff_not, Bool.not_eq_true', Bool.not_eq_false', Int.not_lt, Int.not_le, Bool.not_true, Bool.not_false, Int.toNat_natCast, bne_iff_ne, beq_iff_eq, ne_eq, Decidable.not_not] at h21)
                        refine AWp_seq ?_
                        -- region 30 ref.go:241
                        refine AWp_regL ?_
                        refine st rfl rfl rfl (op_assignO rfl rfl) ?_
                        refine AOps_nil ?_
                        refine AWp_ret ?_
                        (try simp only [blockQ, thenQ])
                        refine ResQ_10 rfl hcl trivial (Ret_of ?_)
                        congr 1
                        unfold u8
                        first | rw [u8N_1 (by omega)] | rw [u8N_2 (by omega) (by omega)] | rw [u8N_3 (by omega) (by omega) rfl] | rw [u8N_4 (by omega) (by omega) rfl] | rw [u8N_0 (by omega) (by omega)]
                        all_goals (try split) <;> omega
                      · (try rw [h21]); (try simp only [decide_eq_true_eq, decide_eq_false_iff_not, Bool.not_eq_true', Bool.not_eq_false', Int.not_lt, Int.not_le, Bool.not_true, Bool.not_false, Int.toNat_natCast, bne_iff_ne, beq_iff_eq, ne_eq, Decidable.not_not] at h21)
                        refine AWp_skip ?_
                        refine AWp_seq ?_
                        -- region 31 ref.go:243
                        refine AWp_regL ?_
                        refine st rfl rfl rfl (op_moveO rfl rfl) ?_
                        refine st rfl rfl rfl (op_assignO rfl rfl) ?_
                        refine AOps_nil ?_
                        refine AWp_ret ?_
                        (try simp only [blockQ, thenQ])
                        refine ResQ_10 rfl hcl trivial (Ret_of ?_)
                        congr 1
                        unfold u8
                        first | rw [u8N_1 (by omega)] | rw [u8N_2 (by omega) (by omega)] | rw [u8N_3 (by omega) (by omega) rfl] | rw [u8N_4 (by omega) (by omega) rfl] | rw [u8N_0 (by omega) (by omega)]
                        all_goals (try split) <;> omega
                    · rw [h20]; (try simp only [decide_eq_true_eq, decide_eq_false_iff_not, Bool.not_eq_true', Bool.not_eq_false', Int.not_lt, Int.not_le, Bool.not_true, Bool.not_false, Int.toNat_natCast, bne_iff_ne, beq_iff_eq, ne_eq, Decidable.not_not] at h20)
                      refine stS rfl rfl rfl (.inl rfl) rfl rfl ?_
                      refine stS rfl rfl rfl (.inl rfl) rfl rfl ?_
                      refine stG rfl rfl rfl rfl rfl rfl (op_pickFO rfl rfl rfl) ?_
                      refine st rfl rfl rfl (op_pickFO rfl rfl rfl) ?_
                      refine AOps_nil ?_
                      refine AWp_condF rfl ?_
                      refine AWp_skip ?_
                      refine AWp_seq ?_
                      -- region 31 ref.go:243
                      refine AWp_regL ?_
                      refine st rfl rfl rfl (op_moveO rfl rfl) ?_
                      refine st rfl rfl rfl (op_assignO rfl rfl) ?_
                      refine AOps_nil ?_
                      refine AWp_ret ?_
                      (try simp only [blockQ, thenQ])
                      refine ResQ_10 rfl hcl trivial (Ret_of ?_)
                      congr 1
                      unfold u8
                      first | rw [u8N_1 (by omega)] | rw [u8N_2 (by omega) (by omega)] | rw [u8N_3 (by omega) (by omega) rfl] | rw [u8N_4 (by omega) (by omega) rfl] | rw [u8N_0 (by omega) (by omega)]
                      all_goals (try split) <;> omega
          · (try rw [h13]); (try simp only [decide_eq_true_eq, decide_eq_false_iff_not, Bool.not_eq_true', Bool.not_eq_false', Int.not_lt, Int.not_le, Bool.not_true, Bool.not_false, Int.toNat_natCast, bne_iff_ne, beq_iff_eq, ne_eq, Decidable.not_not] at h13)
            refine AWp_seq ?_
            -- region 15 ref.go:223
            refine AWp_regL ?_
            refine st rfl rfl rfl (op_moveO rfl rfl) ?_
            refine st rfl rfl rfl (op_geq rfl rfl rfl) ?_
            refine st rfl rfl rfl (op_moveO rfl rfl) ?_
            refine AOps_split 35 rfl (fun h22 => ?_) (fun h22 => ?_)
            · rw [h22]; (try simp only [decide_eq_true_eq, decide_eq_false_iff_not, Bool.not_eq_true', Bool.not_eq_false', Int.not_lt, Int.not_le, Bool.not_true, Bool.not_false, Int.toNat_natCast, bne_iff_ne, beq_iff_eq, ne_eq, Decidable.not_not] at h22)
              refine stG rfl rfl rfl rfl rfl rfl (op_moveO rfl rfl) ?_
              refine stG rfl rfl rfl rfl rfl rfl (op_lss rfl rfl rfl) ?_
              refine st rfl rfl rfl (op_pickTO rfl rfl rfl) ?_
              refine AOps_nil ?_
              refine AWp_cond rfl (fun h23 => ?_) (fun h23 => ?_)
              · (try rw [h23]); (try simp only [decide_eq_true_eq, decide_eq_false_iff_not, Bool.not_eq_true', Bool.not_eq_false', Int.not_lt, Int.not_le, Bool.not_true, Bool.not_false, Int.toNat_natCast, bne_iff_ne, beq_iff_eq, ne_eq, Decidable.not_not] at h23)
                refine AWp_seq ?_
                -- region 16 ref.go:224
                refine AWp_regL ?_
                refine st rfl rfl rfl (op_assignO rfl rfl) ?_
                refine AOps_nil ?_
                refine AWp_seq ?_
                -- region 17 ref.go:225
                refine AWp_regL ?_
                refine st rfl rfl rfl (op_assignO rfl rfl) ?_
                refine AOps_nil ?_
                -- region 18 ref.go:226
                refine AWp_regL ?_
                refine st rfl rfl rfl (op_moveO rfl rfl) ?_
                refine st rfl rfl rfl (op_sub64 rfl rfl rfl (by omega) (by omega)) ?_
                refine st rfl rfl rfl (op_assignO rfl rfl) ?_
                refine AOps_nil ?_
                refine AWp_seq ?_
                refine AWp_seq ?_
                -- region 20 ref.go:230
                refine AWp_regL ?_
                refine st rfl rfl rfl (op_moveO rfl rfl) ?_
                refine st rfl rfl rfl (op_moveO rfl rfl) ?_
                refine st rfl rfl rfl (op_add64 rfl rfl rfl (by omega) (by omega)) ?_
                refine st rfl rfl rfl (op_moveO rfl rfl) ?_
                refine st rfl rfl rfl (op_lenStr rfl rfl Tryd.underlying9 rfl) ?_
                refine st rfl rfl rfl (op_gtr rfl rfl rfl) ?_
                refine AOps_nil ?_
                refine AWp_cond rfl (fun h24 => ?_) (fun h24 => ?_)
                · (try rw [h24]); (try simp only [decide_eq_true_eq, decide_eq_false_iff_not, Bool.not_eq_true', Bool.not_eq_false', Int.not_lt, Int.not_le, Bool.not_true, Bool.not_false, Int.toNat_natCast, bne_iff_ne, beq_iff_eq, ne_eq, Decidable.not_not] at h24)
                  refine AWp_seq ?_
                  -- region 21 ref.go:231
                  refine AWp_regL ?_
                  refine st rfl rfl rfl (op_assignO rfl rfl) ?_
                  refine AOps_nil ?_
                  refine AWp_ret ?_
                  (try simp only [blockQ, thenQ])
                  refine ResQ_10 rfl hcl trivial (Ret_of ?_)
                  congr 1
                  unfold u8
                  first | rw [u8N_1 (by omega)] | rw [u8N_2 (by omega) (by omega)] | rw [u8N_3 (by omega) (by omega) rfl] | rw [u8N_4 (by omega) (by omega) rfl] | rw [u8N_0 (by omega) (by omega)]
                  all_goals (try split) <;> omega
                · (try rw [h24]); (try simp only [decide_eq_true_eq, decide_eq_false_iff_not, Bool.not_eq_true', Bool.not_eq_false', Int.not_lt, Int.not_le, Bool.not_true, Bool.not_false, Int.toNat_natCast, bne_iff_ne, beq_iff_eq, ne_eq, Decidable.not_not] at h24)
                  refine AWp_skip ?_
                  refine AWp_seq ?_
                  refine AWp_seq ?_
                  -- region 22 ref.go:233
                  refine AWp_regL ?_
                  refine st rfl rfl rfl (op_assignO rfl rfl) ?_
                  refine AOps_nil ?_
                  refine AWp_block ?_
                  -- loop 2 LIVE 0:param 1:param 4:assign 6:assign 7:assign 8:assign 9:assign
                  refine AWp_loop (ι := Nat × Int) (fun p => (p.1 = 1 ∧ p.2 = ((bat s a.toNat).toNat : Int) - 240) ∨ (p.1 = 2 ∧ 128 ≤ ((bat s (a.toNat + 1)).toNat : Int) ∧ ((bat s (a.toNat + 1)).toNat : Int) < 192 ∧ p.2 = (64 * (((bat s a.toNat).toNat : Int) - 240) + (((bat s (a.toNat + 1)).toNat : Int) - 128))) ∨ (p.1 = 3 ∧ 128 ≤ ((bat s (a.toNat + 1)).toNat : Int) ∧ ((bat s (a.toNat + 1)).toNat : Int) < 192 ∧ 128 ≤ ((bat s (a.toNat + 2)).toNat : Int) ∧ ((bat s (a.toNat + 2)).toNat : Int) < 192 ∧ p.2 = (64 * (64 * (((bat s a.toNat).toNat : Int) - 240) + (((bat s (a.toNat + 1)).toNat : Int) - 128)) + (((bat s (a.toNat + 2)).toNat : Int) - 128))) ∨ (p.1 = 4 ∧ 128 ≤ ((bat s (a.toNat + 1)).toNat : Int) ∧ ((bat s (a.toNat + 1)).toNat : Int) < 192 ∧ 128 ≤ ((bat s (a.toNat + 2)).toNat : Int) ∧ ((bat s (a.toNat + 2)).toNat : Int) < 192 ∧ 128 ≤ ((bat s (a.toNat + 3)).toNat : Int) ∧ ((bat s (a.toNat + 3)).toNat : Int) < 192 ∧ p.2 = (64 * (64 * (64 * (((bat s a.toNat).toNat : Int) - 240) + (((bat s (a.toNat + 1)).toNat : Int) - 128)) + (((bat s (a.toNat + 2)).toNat : Int) - 128)) + (((bat s (a.toNat + 3)).toNat : Int) - 128)))) (fun p => ⟨[], [(0, .str s), (1, .int .i64 a), (6, .int .i64 4), (7, .int .i64 65536), (8, .int .i64 p.2), (9, .int .i64 (p.1 : Int))]⟩) (fun p => σ) (fun p => 4 - p.1) ((1, ((bat s a.toNat).toNat : Int) - 240)) (.inl ⟨rfl, rfl⟩) ?_ rfl (fun p hp => ?_)
                  · exact ⟨rfl, rfl, rfl, rfl, rfl, rfl, rfl, trivial⟩
                  obtain ⟨i, v⟩ := p
                  simp only at hp ⊢
                  have ci := bat_lt s (a + (i : Int)).toNat
                  have k1 : i = 1 → (bat s (a + (i : Int)).toNat).toNat = (bat s (a.toNat + 1)).toNat := fun h => by rw [h]; congr 2; omega
                  have k2 : i = 2 → (bat s (a + (i : Int)).toNat).toNat = (bat s (a.toNat + 2)).toNat := fun h => by rw [h]; congr 2; omega
                  have k3 : i = 3 → (bat s (a + (i : Int)).toNat).toNat = (bat s (a.toNat + 3)).toNat := fun h => by rw [h]; congr 2; omega
                  refine AWp_seq ?_
                  refine AWp_seq ?_
                  -- region 23 ref.go:233
                  refine AWp_regL ?_
                  refine st rfl rfl rfl (op_moveO rfl rfl) ?_
                  refine st rfl rfl rfl (op_moveO rfl rfl) ?_
                  refine st rfl rfl rfl (op_lss rfl rfl rfl) ?_
                  refine AOps_nil ?_
                  refine AWp_cond rfl (fun h25 => ?_) (fun h25 => ?_)
                  · (try rw [h25]); (try simp only [decide_eq_true_eq, decide_eq_false_iff_not, Bool.not_eq_true', Bool.not_eq_false', Int.not_lt, Int.not_le, Bool.not_true, Bool.not_false, Int.toNat_natCast, bne_iff_ne, beq_iff_eq, ne_eq, Decidable.not_not] at h25)
                    refine AWp_skip ?_
                    refine AWp_seq ?_
                    refine AWp_block ?_
                    refine AWp_seq ?_
                    -- region 25 ref.go:234
                    refine AWp_regL ?_
                    refine st rfl rfl rfl (op_moveO rfl rfl) ?_
                    refine st rfl rfl rfl (op_moveO rfl rfl) ?_
                    refine st rfl rfl rfl (op_moveO rfl rfl) ?_
                    refine st rfl rfl rfl (op_add64 rfl rfl rfl (by omega) (by omega)) ?_
                    refine st rfl rfl rfl (op_index_strB rfl Tryd.underlying9 rfl rfl (by omega) (by omega)) ?_
                    refine st rfl rfl rfl (op_convIn rfl (by rw [Tryd.underlying5]; rfl) Tryd.underlying3 rfl (by first | rfl | exact wrap64_in (by omega) (by omega) | (simp only [IntKind.wrap]; omega))) ?_
                    refine st rfl rfl rfl (op_assignO rfl rfl) ?_
                    refine AOps_nil ?_
                    refine AWp_seq ?_
                    refine AWp_seq ?_
                    -- region 26 ref.go:235
                    refine AWp_regL ?_
                    refine st rfl rfl rfl (op_moveO rfl rfl) ?_
                    refine st rfl rfl rfl (op_lss rfl rfl rfl) ?_
                    refine st rfl rfl rfl (op_moveO rfl rfl) ?_
                    refine AOps_split 60 rfl (fun h26 => ?_) (fun h26 => ?_)
                    · rw [h26]; (try simp only [decide_eq_true_eq, decide_eq_false_iff_not, Bool.not_eq_true', Bool.not_eq_false', Int.not_lt, Int.not_le, Bool.not_true, Bool.not_false, Int.toNat_natCast, bne_iff_ne, beq_iff_eq, ne_eq, Decidable.not_not] at h26)
                      refine stS rfl rfl rfl (.inl rfl) rfl rfl ?_
                      refine stS rfl rfl rfl (.inl rfl) rfl rfl ?_
                      refine st rfl rfl rfl (op_pickTO rfl rfl rfl) ?_
                      refine AOps_nil ?_
                      refine AWp_condT rfl ?_
                      refine AWp_seq ?_
                      -- region 27 ref.go:236
                      refine AWp_regL ?_
                      refine st rfl rfl rfl (op_assignO rfl rfl) ?_
                      refine AOps_nil ?_
                      refine AWp_ret ?_
                      (try simp only [blockQ, thenQ])
                      refine ResQ_10 rfl hcl trivial (Ret_of ?_)
                      congr 1
                      unfold u8
                      first | rw [u8N_1 (by omega)] | rw [u8N_2 (by omega) (by omega)] | rw [u8N_3 (by omega) (by omega) rfl] | rw [u8N_4 (by omega) (by omega) rfl] | rw [u8N_0 (by omega) (by omega)]
                      all_goals (try split) <;> omega
                    · rw [h26]; (try simp only [decide_eq_true_eq, decide_eq_false_iff_not, Bool.not_eq_true', Bool.not_eq_false', Int.not_lt, Int.not_le, Bool.not_true, Bool.not_false, Int.toNat_natCast, bne_iff_ne, beq_iff_eq, ne_eq, Decidable.not_not] at h26)
                      refine stG rfl rfl rfl rfl rfl rfl (op_moveO rfl rfl) ?_
                      refine stG rfl rfl rfl rfl rfl rfl (op_geq rfl rfl rfl) ?_
                      refine st rfl rfl rfl (op_pickFO rfl rfl rfl) ?_
                      refine AOps_nil ?_
                      refine AWp_cond rfl (fun h27 => ?_) (fun h27 => ?_)
                      · (try rw [h27]); (try simp only [decide_eq_true_eq, decide_eq_false_iff_not, Bool.not_eq_true', Bool.not_eq_false', Int.not_lt, Int.not_le, Bool.not_true, Bool.not_false, Int.toNat_natCast, bne_iff_ne, beq_iff_eq, ne_eq, Decidable.not_not] at h27)
                        refine AWp_seq ?_
                        -- region 27 ref.go:236
                        refine AWp_regL ?_
                        refine st rfl rfl rfl (op_assignO rfl rfl) ?_
                        refine AOps_nil ?_
                        refine AWp_ret ?_
                        (try simp only [blockQ, thenQ])
                        refine ResQ_10 rfl hcl trivial (Ret_of ?_)
                        congr 1
                        unfold u8
                        first | rw [u8N_1 (by omega)] | rw [u8N_2 (by omega) (by omega)] | rw [u8N_3 (by omega) (by omega) rfl] | rw [u8N_4 (by omega) (by omega) rfl] | rw [u8N_0 (by omega) (by omega)]
                        all_goals (try split) <;> omega
                      · (try rw [h27]); (try simp only [decide_eq_true_eq, decide_eq_false_iff_not, Bool.not_eq_true', Bool.not_eq_false', Int.not_lt, Int.not_le, Bool.not_true, Bool.not_false, Int.toNat_natCast, bne_iff_ne, beq_iff_eq, ne_eq, Decidable.not_not] at h27)
                        refine AWp_skip ?_
                        -- region 28 ref.go:238
                        refine AWp_regL ?_
                        refine st rfl rfl rfl (op_moveO rfl rfl) ?_
                        refine st rfl rfl rfl (op_mul64 rfl rfl rfl (by omega) (by omega)) ?_
                        refine st rfl rfl rfl (op_moveO rfl rfl) ?_
                        refine st rfl rfl rfl (op_add64 rfl rfl rfl (by omega) (by omega)) ?_
                        refine st rfl rfl rfl (op_sub64 rfl rfl rfl (by omega) (by omega)) ?_
                        refine st rfl rfl rfl (op_assignO rfl rfl) ?_
                        refine AOps_nil ?_
                        -- region 24 ref.go:233
                        refine AWp_regL ?_
                        refine st rfl rfl rfl (op_moveO rfl rfl) ?_
                        refine st rfl rfl rfl (op_add64 rfl rfl rfl (by omega) (by omega)) ?_
                        refine st rfl rfl rfl (op_assignO rfl rfl) ?_
                        refine AOps_nil ?_
                        refine ⟨(i + 1, _), σ.length, ?_, ?_, Nat.le_refl _, ⟨rfl, rfl, rfl, rfl, rfl, rfl, rfl, trivial⟩, hcl, ?_, List.take_length⟩
                        · simp only; omega
                        · simp only; omega
                        · simp [ltE, AV.lt]
                  · (try rw [h25]); (try simp only [decide_eq_true_eq, decide_eq_false_iff_not, Bool.not_eq_true', Bool.not_eq_false', Int.not_lt, Int.not_le, Bool.not_true, Bool.not_false, Int.toNat_natCast, bne_iff_ne, beq_iff_eq, ne_eq, Decidable.not_not] at h25)
                    refine AWp_exit ?_
                    refine AWp_seq ?_
                    refine AWp_seq ?_
                    -- region 29 ref.go:240
                    refine AWp_regL ?_
                    refine st rfl rfl rfl (op_moveO rfl rfl) ?_
                    refine st rfl rfl rfl (op_moveO rfl rfl) ?_
                    refine st rfl rfl rfl (op_lss rfl rfl rfl) ?_
                    refine st rfl rfl rfl (op_moveO rfl rfl) ?_
                    refine AOps_split 72 rfl (fun h28 => ?_) (fun h28 => ?_)
                    · rw [h28]; (try simp only [decide_eq_true_eq, decide_eq_false_iff_not, Bool.not_eq_true', Bool.not_eq_false', Int.not_lt, Int.not_le, Bool.not_true, Bool.not_false, Int.toNat_natCast, bne_iff_ne, beq_iff_eq, ne_eq, Decidable.not_not] at h28)
                      refine stS rfl rfl rfl (.inl rfl) rfl rfl ?_
                      refine stS rfl rfl rfl (.inl rfl) rfl rfl ?_
                      refine st rfl rfl rfl (op_pickTO rfl rfl rfl) ?_
                      refine st rfl rfl rfl (op_moveO rfl rfl) ?_
                      refine stS rfl rfl rfl (.inl rfl) rfl rfl ?_
                      refine stS rfl rfl rfl (.inl rfl) rfl rfl ?_
                      refine stS rfl rfl rfl (.inl rfl) rfl rfl ?_
                      refine stS rfl rfl rfl (.inr rfl) rfl rfl ?_
                      refine stS rfl rfl rfl (.inr rfl) rfl rfl ?_
                      refine stS rfl rfl rfl (.inl rfl) rfl rfl ?_
                      refine st rfl rfl rfl (op_pickTO rfl rfl rfl) ?_
                      refine AOps_nil ?_
                      refine AWp_condT rfl ?_
                      refine AWp_seq ?_
                      -- region 30 ref.go:241
                      refine AWp_regL ?_
                      refine st rfl rfl rfl (op_assignO rfl rfl) ?_
                      refine AOps_nil ?_
                      refine AWp_ret ?_
                      (try simp only [blockQ, thenQ])
                      refine ResQ_10 rfl hcl trivial (Ret_of ?_)
                      congr 1
                      unfold u8
                      first | rw [u8N_1 (by omega)] | rw [u8N_2 (by omega) (by omega)] | rw [u8N_3 (by omega) (by omega) rfl] | rw [u8N_4 (by omega) (by omega) rfl] | rw [u8N_0 (by omega) (by omega)]
                      all_goals (try split) <;> omega
                    · rw [h28]; (try simp only [decide_eq_true_eq, decide_eq_false_iff_not, Bool.not_eq_true', Bool.not_eq_false', Int.not_lt, Int.not_le, Bool.not_true, Bool.not_false, Int.toNat_natCast, bne_iff_ne, beq_iff_eq, ne_eq, Decidable.not_not] at h28)
                      refine stG rfl rfl rfl rfl rfl rfl (op_moveO rfl rfl) ?_
                      refine stG rfl rfl rfl rfl rfl rfl (op_gtr rfl rfl rfl) ?_
                      refine st rfl rfl rfl (op_pickFO rfl rfl rfl) ?_
                      refine st rfl rfl rfl (op_moveO rfl rfl) ?_
                      refine AOps_split 76 rfl (fun h29 => ?_) (fun h29 => ?_)
                      · rw [h29]; (try simp only [decide_eq_true_eq, decide_eq_false_iff_not, Bool.not_eq_true', Bool.not_eq_false', Int.not_lt, Int.not_le, Bool.not_true, Bool.not_false, Int.toNat_natCast, bne_iff_ne, beq_iff_eq, ne_eq, Decidable.not_not] at h29)
                        refine stS rfl rfl rfl (.inl rfl) rfl rfl ?_
                        refine stS rfl rfl rfl (.inl rfl) rfl rfl ?_
                        refine stS rfl rfl rfl (.inl rfl) rfl rfl ?_
                        refine stS rfl rfl rfl (.inr rfl) rfl rfl ?_
                        refine stS rfl rfl rfl (.inr rfl) rfl rfl ?_
                        refine stS rfl rfl rfl (.inl rfl) rfl rfl ?_
                        refine st rfl rfl rfl (op_pickTO rfl rfl rfl) ?_
                        refine AOps_nil ?_
                        refine AWp_condT rfl ?_
                        refine AWp_seq ?_
                        -- region 30 ref.go:241
                        refine AWp_regL ?_
                        refine st rfl rfl rfl (op_assignO rfl rfl) ?_
                        refine AOps_nil ?_
                        refine AWp_ret ?_
                        (try simp only [blockQ, thenQ])
                        refine ResQ_10 rfl hcl trivial (Ret_of ?_)
                        congr 1
                        unfold u8
                        first | rw [u8N_1 (by omega)] | rw [u8N_2 (by omega) (by omega)] | rw [u8N_3 (by omega) (by omega) rfl] | rw [u8N_4 (by omega) (by omega) rfl] | rw [u8N_0 (by omega) (by omega)]
                        all_goals (try split) <;> omega
                      · rw [h29]; (try simp only [decide_eq_true_eq, decide_eq_false_iff_not, Bool.not_eq_true', Bool.not_eq_false', Int.not_lt, Int.not_le, Bool.not_true, Bool.not_false, Int.toNat_natCast, bne_iff_ne, beq_iff_eq, ne_eq, Decidable.not_not] at h29)
                        refine stG rfl rfl rfl rfl rfl rfl (op_moveO rfl rfl) ?_
                        refine stG rfl rfl rfl rfl rfl rfl (op_geq rfl rfl rfl) ?_
                        refine stG rfl rfl rfl rfl rfl rfl (op_moveO rfl rfl) ?_
                        refine AOps_split 79 rfl (fun h30 => ?_) (fun h30 => ?_)
                        · rw [h30]; (try simp only [decide_eq_true_eq, decide_eq_false_iff_not, Bool.not_eq_true', Bool.not_eq_false', Int.not_lt, Int.not_le, Bool.not_true, Bool.not_false, Int.toNat_natCast, bne_iff_ne, beq_iff_eq, ne_eq, Decidable.not_not] at h30)
                          refine stG rfl rfl rfl rfl rfl rfl (op_moveO rfl rfl) ?_
                          refine stG rfl rfl rfl rfl rfl rfl (op_lss rfl rfl rfl) ?_
                          refine stG rfl rfl rfl rfl rfl rfl (op_pickTO rfl rfl rfl) ?_
                          refine st rfl rfl rfl (op_pickFO rfl rfl rfl) ?_
                          refine AOps_nil ?_
                          refine AWp_cond rfl (fun h31 => ?_) (fun h31 => ?_)
                          · (try rw [h31]); (try simp only [decide_eq_true_eq, decide_eq_false_iff_not, Bool.not_eq_true', Bool.not_eq_false', Int.not_lt, Int.not_le, Bool.not_true, Bool.not_false, Int.toNat_natCast, bne_iff_ne, beq_iff_eq, ne_eq, Decidable.not_not] at h31)
                            refine AWp_seq ?_
                            -- region 30 ref.go:241
                            refine AWp_regL ?_
                            refine st rfl rfl rfl (op_assignO rfl rfl) ?_
                            refine AOps_nil ?_
                            refine AWp_ret ?_
                            (try simp only [blockQ, thenQ])
                            refine ResQ_10 rfl hcl trivial (Ret_of ?_)
                            congr 1
                            unfold u8
                            first | rw [u8N_1 (by omega)] | rw [u8N_2 (by omega) (by omega)] | rw [u8N_3 (by omega) (by omega) rfl] | rw [u8N_4 (by omega) (by omega) rfl] | rw [u8N_0 (by omega) (by omega)]
                            all_goals (try split) <;> omega
                          · (try rw [h31]); (try simp only [decide_eq_true_eq, decide_eq_false_iff_not, Bool.not_eq_true', Bool.not_eq_false', Int.not_lt, Int.not_le, Bool.not_true, Bool.not_false, Int.toNat_natCast, bne_iff_ne, beq_iff_eq, ne_eq, Decidable.not_not] at h31)
                            refine AWp_skip ?_
                            refine AWp_seq ?_
                            -- region 31 ref.go:243
                            refine AWp_regL ?_
                            refine st rfl rfl rfl (op_moveO rfl rfl) ?_
                            refine st rfl rfl rfl (op_assignO rfl rfl) ?_
                            refine AOps_nil ?_
                            refine AWp_ret ?_
                            (try simp only [blockQ, thenQ])
                            refine ResQ_10 rfl hcl trivial (Ret_of ?_)
                            congr 1
                            unfold u8
                            first | rw [u8N_1 (by omega)] | rw [u8N_2 (by omega) (by omega)] | rw [u8N_3 (by omega) (by omega) rfl] | rw [u8N_4 (by omega) (by omega) rfl] | rw [u8N_0 (by omega) (by omega)]
                            all_goals (try split) <;> omega
                        · rw [h30]; (try simp only [decide_eq_true_eq, decide_eq_false_iff_not, Bool.not_eq_true', Bool.not_eq_false', Int.not_lt, Int.not_le, Bool.not_true, Bool.not_false, Int.toNat_natCast, bne_iff_ne, beq_iff_eq, ne_eq, Decidable.not_not] at h30)
                          refine stS rfl rfl rfl (.inl rfl) rfl rfl ?_
                          refine stS rfl rfl rfl (.inl rfl) rfl rfl ?_
                          refine stG rfl rfl rfl rfl rfl rfl (op_pickFO rfl rfl rfl) ?_
                          refine st rfl rfl rfl (op_pickFO rfl rfl rfl) ?_
                          refine AOps_nil ?_
                          refine AWp_condF rfl ?_
                          refine AWp_skip ?_
                          refine AWp_seq ?_
                          -- region 31 ref.go:243
                          refine AWp_regL ?_
                          refine st rfl rfl rfl (op_moveO rfl rfl) ?_
                          refine st rfl rfl rfl (op_assignO rfl rfl) ?_
                          refine AOps_nil ?_
                          refine AWp_ret ?_
                          (try simp only [blockQ, thenQ])
                          refine ResQ_10 rfl hcl trivial (Ret_of ?_)
                          congr 1
                          unfold u8
                          first | rw [u8N_1 (by omega)] | rw [u8N_2 (by omega) (by omega)] | rw [u8N_3 (by omega) (by omega) rfl] | rw [u8N_4 (by omega) (by omega) rfl] | rw [u8N_0 (by omega) (by omega)]
                          all_goals (try split) <;> omega
              · (try rw [h23]); (try simp only [decide_eq_true_eq, decide_eq_false_iff_not, Bool.not_eq_true', Bool.not_eq_false', Int.not_lt, Int.not_le, Bool.not_true, Bool.not_false, Int.toNat_natCast, bne_iff_ne, beq_iff_eq, ne_eq, Decidable.not_not] at h23)
                refine AWp_seq ?_
                -- region 19 ref.go:228
                refine AWp_regL ?_
                refine st rfl rfl rfl (op_assignO rfl rfl) ?_
                refine AOps_nil ?_
                refine AWp_ret ?_
                (try simp only [blockQ, thenQ])
                refine ResQ_10 rfl hcl trivial (Ret_of ?_)
                congr 1
                unfold u8
                first | rw [u8N_1 (by omega)] | rw [u8N_2 (by omega) (by omega)] | rw [u8N_3 (by omega) (by omega) rfl] | rw [u8N_4 (by omega) (by omega) rfl] | rw [u8N_0 (by omega) (by omega)]
                all_goals (try split) <;> omega
            · rw [h22]; (try simp only [decide_eq_true_eq, decide_eq_false_iff_not, Bool.not_eq_true', Bool.not_eq_false', Int.not_lt, Int.not_le, Bool.not_true, Bool.not_false, Int.toNat_natCast, bne_iff_ne, beq_iff_eq, ne_eq, Decidable.not_not] at h22)
              exfalso; omega
        · rw [h12]; (try simp only [decide_eq_true_eq, decide_eq_false_iff_not, Bool.not_eq_true', Bool.not_eq_false', Int.not_lt, Int.not_le, Bool.not_true, Bool.not_false, Int.toNat_natCast, bne_iff_ne, beq_iff_eq, ne_eq, Decidable.not_not] at h12)
          exfalso; omega
    · rw [h2]; (try simp only [decide_eq_true_eq, decide_eq_false_iff_not, Bool.not_eq_true', Bool.not_eq_false', Int.not_lt, Int.not_le, Bool.not_true, Bool.not_false, Int.toNat_natCast, bne_iff_ne, beq_iff_eq, ne_eq, Decidable.not_not] at h2)
      refine stS rfl rfl rfl (.inl rfl) rfl rfl ?_
      refine stS rfl rfl rfl (.inl rfl) rfl rfl ?_
      refine st rfl rfl rfl (op_pickFO rfl rfl rfl) ?_
      refine AOps_nil ?_
      refine AWp_condF rfl ?_
      refine AWp_seq ?_
      -- region 11 ref.go:219
      refine AWp_regL ?_
      refine st rfl rfl rfl (op_moveO rfl rfl) ?_
      refine st rfl rfl rfl (op_geq rfl rfl rfl) ?_
      refine st rfl rfl rfl (op_moveO rfl rfl) ?_
      refine AOps_split 27 rfl (fun h32 => ?_) (fun h32 => ?_)
      · rw [h32]; (try simp only [decide_eq_true_eq, decide_eq_false_iff_not, Bool.not_eq_true', Bool.not_eq_false', Int.not_lt, Int.not_le, Bool.not_true, Bool.not_false, Int.toNat_natCast, bne_iff_ne, beq_iff_eq, ne_eq, Decidable.not_not] at h32)
        exfalso; omega
      · rw [h32]; (try simp only [decide_eq_true_eq, decide_eq_false_iff_not, Bool.not_eq_true', Bool.not_eq_false', Int.not_lt, Int.not_le, Bool.not_true, Bool.not_false, Int.toNat_natCast, bne_iff_ne, beq_iff_eq, ne_eq, Decidable.not_not] at h32)
        refine stS rfl rfl rfl (.inl rfl) rfl rfl ?_
        refine stS rfl rfl rfl (.inl rfl) rfl rfl ?_
        refine st rfl rfl rfl (op_pickFO rfl rfl rfl) ?_
        refine AOps_nil ?_
        refine AWp_condF rfl ?_
        refine AWp_seq ?_
        -- region 15 ref.go:223
        refine AWp_regL ?_
        refine st rfl rfl rfl (op_moveO rfl rfl) ?_
        refine st rfl rfl rfl (op_geq rfl rfl rfl) ?_
        refine st rfl rfl rfl (op_moveO rfl rfl) ?_
        refine AOps_split 35 rfl (fun h33 => ?_) (fun h33 => ?_)
        · rw [h33]; (try simp only [decide_eq_true_eq, decide_eq_false_iff_not, Bool.not_eq_true', Bool.not_eq_false', Int.not_lt, Int.not_le, Bool.not_true, Bool.not_false, Int.toNat_natCast, bne_iff_ne, beq_iff_eq, ne_eq, Decidable.not_not] at h33)
          exfalso; omega
        · rw [h33]; (try simp only [decide_eq_true_eq, decide_eq_false_iff_not, Bool.not_eq_true', Bool.not_eq_false', Int.not_lt, Int.not_le, Bool.not_true, Bool.not_false, Int.toNat_natCast, bne_iff_ne, beq_iff_eq, ne_eq, Decidable.not_not] at h33)
          refine stS rfl rfl rfl (.inl rfl) rfl rfl ?_
          refine stS rfl rfl rfl (.inl rfl) rfl rfl ?_
          refine st rfl rfl rfl (op_pickFO rfl rfl rfl) ?_
          refine AOps_nil ?_
          refine AWp_condF rfl ?_
          refine AWp_seq ?_
          -- region 19 ref.go:228
          refine AWp_regL ?_
          refine st rfl rfl rfl (op_assignO rfl rfl) ?_
          refine AOps_nil ?_
          refine AWp_ret ?_
          (try simp only [blockQ, thenQ])
          refine ResQ_10 rfl hcl trivial (Ret_of ?_)
          congr 1
          unfold u8
          first | rw [u8N_1 (by omega)] | rw [u8N_2 (by omega) (by omega)] | rw [u8N_3 (by omega) (by omega) rfl] | rw [u8N_4 (by omega) (by omega) rfl] | rw [u8N_0 (by omega) (by omega)]
          all_goals (try split) <;> omega

theorem text_c (s : ByteArray) (σ : List AO) (hs : s.size ≤ 1000000) : ACalls Tryd.prog 24 [.str s] σ (Ret (.bool (pb (Utf s))) σ) := by
  refine ACalls_body Tryd.func24 rfl Tryd.ntmps24 (res1 Tryd.results24) (Nat.le_of_ble_eq_true rfl) (fun hcl hal => ?_)
  have hU : utfFrom s 0 = Go.Lib.validD s.data.toList := rfl
  refine AWp_seq ?_
  -- region 0 ref.go:247
  refine AWp_regL ?_
  refine st rfl rfl rfl (op_assignO rfl rfl) ?_
  refine AOps_nil ?_
  refine AWp_seq ?_
  refine AWp_seq ?_
  -- region 1 ref.go:248
  refine AWp_regL ?_
  refine st rfl rfl rfl (op_assignO rfl rfl) ?_
  refine AOps_nil ?_
  refine AWp_block ?_
  -- loop 0 LIVE 0:param 2:assign 3:assign
  refine AWp_loop (ι := Nat) (fun i => i ≤ s.size ∧ utfFrom s i = utfFrom s 0) (fun i => ⟨[], [(0, .str s), (3, .int .i64 (i : Int))]⟩) (fun i => σ) (fun i => s.size - i) (0) (⟨Nat.zero_le _, rfl⟩) ?_ rfl (fun i hi => ?_)
  · exact ⟨rfl, rfl, rfl, trivial⟩
  obtain ⟨hi1, hi2⟩ := hi
  refine AWp_seq ?_
  refine AWp_seq ?_
  -- region 2 ref.go:248
  refine AWp_regL ?_
  refine st rfl rfl rfl (op_moveO rfl rfl) ?_
  refine st rfl rfl rfl (op_moveO rfl rfl) ?_
  refine st rfl rfl rfl (op_lenStr rfl rfl Tryd.underlying9 rfl) ?_
  refine st rfl rfl rfl (op_lss rfl rfl rfl) ?_
  refine AOps_nil ?_
  refine AWp_cond rfl (fun h1 => ?_) (fun h1 => ?_)
  · (try rw [h1]); (try simp only [decide_eq_true_eq, decide_eq_false_iff_not, Bool.not_eq_true', Bool.not_eq_false', Int.not_lt, Int.not_le, Bool.not_true, Bool.not_false, Int.toNat_natCast, bne_iff_ne, beq_iff_eq, ne_eq, Decidable.not_not] at h1)
    have hst := utfFrom_step (s := s) (a := i) (by omega)
    have hle := u8_le (s := s) (a := i) (by omega)
    refine AWp_skip ?_
    refine AWp_block ?_
    refine AWp_seq ?_
    -- region 3 ref.go:249
    refine AWp_regL ?_
    refine st rfl rfl rfl (op_moveO rfl rfl) ?_
    refine st rfl rfl rfl (op_moveO rfl rfl) ?_
    refine st rfl rfl rfl (op_callF rfl rfl rfl Tryd.func43 rfl rfl (utf8_c s _ _ (by omega) (by omega) (by omega))) ?_
    simp only [Int.toNat_natCast]
    refine st rfl rfl rfl (op_assignO rfl rfl) ?_
    refine AOps_nil ?_
    refine AWp_seq ?_
    refine AWp_seq ?_
    -- region 4 ref.go:250
    refine AWp_regL ?_
    refine st rfl rfl rfl (op_moveO rfl rfl) ?_
    refine st rfl rfl rfl (op_eql rfl rfl rfl) ?_
    refine AOps_nil ?_
    refine AWp_cond rfl (fun h2 => ?_) (fun h2 => ?_)
    · (try rw [h2]); (try simp only [decide_eq_true_eq, decide_eq_false_iff_not, Bool.not_eq_true', Bool.not_eq_false', Int.not_lt, Int.not_le, Bool.not_true, Bool.not_false, Int.toNat_natCast, bne_iff_ne, beq_iff_eq, ne_eq, Decidable.not_not] at h2)
      refine AWp_seq ?_
      -- region 5 ref.go:251
      refine AWp_regL ?_
      refine st rfl rfl rfl (op_assignO rfl rfl) ?_
      refine AOps_nil ?_
      refine AWp_ret ?_
      (try simp only [blockQ, thenQ])
      refine ResQ_10 rfl hcl trivial (Ret_of (bool_f ?_))
      rw [if_pos (by omega)] at hst
      unfold Utf; rw [← hU, ← hi2, hst]; decide
    · (try rw [h2]); (try simp only [decide_eq_true_eq, decide_eq_false_iff_not, Bool.not_eq_true', Bool.not_eq_false', Int.not_lt, Int.not_le, Bool.not_true, Bool.not_false, Int.toNat_natCast, bne_iff_ne, beq_iff_eq, ne_eq, Decidable.not_not] at h2)
      refine AWp_skip ?_
      -- region 6 ref.go:253
      refine AWp_regL ?_
      refine st rfl rfl rfl (op_moveO rfl rfl) ?_
      refine st rfl rfl rfl (op_moveO rfl rfl) ?_
      refine st rfl rfl rfl (op_add64 rfl rfl rfl (by omega) (by omega)) ?_
      refine st rfl rfl rfl (op_assignO rfl rfl) ?_
      refine AOps_nil ?_
      have hn : u8 s i ≠ 0 := by omega
      rw [if_neg hn] at hst
      refine ⟨i + u8 s i, σ.length, ⟨u8_le (by omega), by rw [← hi2, hst]⟩, by omega, Nat.le_refl _, ⟨rfl, rfl, ?_, trivial⟩, hcl, ?_, List.take_length⟩
      · rw [Int.natCast_add]; rfl
      · simp [ltE, AV.lt]
  · (try rw [h1]); (try simp only [decide_eq_true_eq, decide_eq_false_iff_not, Bool.not_eq_true', Bool.not_eq_false', Int.not_lt, Int.not_le, Bool.not_true, Bool.not_false, Int.toNat_natCast, bne_iff_ne, beq_iff_eq, ne_eq, Decidable.not_not] at h1)
    have hend := utfFrom_end (s := s) (a := i) (by omega)
    refine AWp_exit ?_
    refine AWp_seq ?_
    -- region 7 ref.go:255
    refine AWp_regL ?_
    refine st rfl rfl rfl (op_assignO rfl rfl) ?_
    refine AOps_nil ?_
    refine AWp_ret ?_
    (try simp only [blockQ, thenQ])
    exact ResQ_10 rfl hcl trivial (Ret_of (bool_t (by unfold Utf; rw [← hU, ← hi2, hend])))

end Lg
