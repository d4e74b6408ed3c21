/- A part of the proof of ValueSame: Same is of one value with itself, both ways, and on from one to the next, and what follows of size, depth and members; for every input, with no condition: W21 W22 W6 W7 W8. -/
import Derived.Test.YtiihpckdafldkaaDoorP9
import Derived.Test.YtiihpckdafldkaaDoorP10
import Derived.Test.YtiihpckdafldkaaDoorP5
import Derived.Test.YtiihpckdafldkaaDoorProg
set_option linter.unusedVariables false
set_option linter.unusedSimpArgs false
set_option linter.unusedSectionVars false
set_option maxRecDepth 20000
set_option maxHeartbeats 4000000
namespace Lg
open Go Go.Proofs Go.RowKit
variable [GLay] 


theorem value_r (s : ByteArray) (hs : s.size ≤ 100000) : ∀ (n : Nat) (r : RS) (p : Nat) (σ : List AO), σ[p]? = some (rbox s r) → ROK s r → s.size + 1 < n + r.a → ACalls Tryd.prog 52 [.ptr p 0] σ (Ret (.agg (vcells (rval n s r).1)) (σ.set p (rbox s (rval n s r).2))) := by
  intro n
  induction n with
  | zero => intro r p σ hσ h hn; exfalso; have := h.a; omega
  | succ n ih =>
  intro r p σ hσ h hn
  have hp : p < σ.length := (List.getElem?_eq_some_iff.1 hσ).1
  have hb1 := rblank_to h
  have hta := hb1.a
  refine ACalls_bodyC Tryd.func52 rfl Tryd.ntmps52 (by rw [Tryd.results52]; exact (.ck Tryd.isAgg28 Tryd.sizeOf28 .nil)) (Nat.le_of_ble_eq_true rfl) (fun hcl hal => ?_)
  refine AWp_heap (set_same hσ) ?_
  refine AWp_seq ?_
  -- region 0 ref.go:594
  refine AWp_regL ?_
  refine st rfl rfl rfl (op_allocS0 (cs := [_, _, _, _, _, _, _, _]) rfl Tryd.zeroValue28 rfl) ?_
  refine AOps_nil ?_
  refine AWp_seq ?_
  -- region 1 ref.go:595
  refine AWp_regL ?_
  refine st rfl rfl rfl (op_allocS (cs := [_, _, _, _, _, _, _, _]) 1 rfl rfl Tryd.zeroValue28 rfl) ?_
  refine AOps_nil ?_
  refine AWp_seq ?_
  -- region 2 ref.go:596
  refine AWp_regL ?_
  refine st rfl rfl rfl (op_moveO rfl rfl) ?_
  refine st rfl rfl rfl (op_callF rfl rfl rfl Tryd.func58 rfl rfl (callSA hp (blank_r s r p _ (get_setA hp) hs h))) ?_
  refine AOps_nil ?_
  refine AWp_seq ?_
  -- region 3 ref.go:597
  have hres : rval (n + 1) s r = ((rone (rval n s) s (rblank s r)).1, rblank s (rone (rval n s) s (rblank s r)).2) := rfl
  generalize rblank s r = t at hb1 hta hres ⊢
  have htk := hb1.ok.a
  have htb := hb1.ok.b
  have hn2 : s.size + 1 < n + t.a + 1 := by omega
  refine AWp_regL ?_
  refine st rfl rfl rfl (op_moveO rfl rfl) ?_
  refine st rfl rfl rfl (op_callF rfl rfl rfl Tryd.func59 rfl rfl (peek_r s t p _ (get_setA hp))) ?_
  refine st rfl rfl rfl (op_assignO rfl rfl) ?_
  refine AOps_nil ?_
  refine AWp_join (ι := AV × AV × List AO) (fun z => AVle z.1 (.sl false 8 (lcells (rone (rval n s) s t).1.l)) ∧ AVle z.2.1 (.sl false 9 (mcells (rone (rval n s) s t).1.m))) (fun z => ⟨[], [(0, .ptr p 0), (2, .ptr (σ.length + 0) 0), (3, .ptr (σ.length + 1) 0)]⟩) (fun z => σ.set p (rbox s (rone (rval n s) s t).2) ++ ([.box [.int .i64 0, .bool false, .bool false, .str e0, .int .i64 0, .str e0, .nils, .nils], .box [.int .i64 (rone (rval n s) s t).1.kind, .bool (rone (rval n s) s t).1.b, .bool (rone (rval n s) s t).1.n.neg, .str (rone (rval n s) s t).1.n.digits, .int .i64 (rone (rval n s) s t).1.n.exp, .str (rone (rval n s) s t).1.s, z.1, z.2.1]] ++ z.2.2)) ?_ (fun z hj => ?_)
  · skip
    refine AWp_seq ?_
    -- region 4 ref.go:598
    refine AWp_regL ?_
    refine st rfl rfl rfl (op_moveO rfl rfl) ?_
    refine st rfl rfl rfl (op_eql rfl rfl rfl) ?_
    refine AOps_nil ?_
    refine AWp_cond rfl (fun h1 => ?_) (fun h1 => ?_)
    · (try rw [h1]); (try simp only [decide_eq_true_eq, decide_eq_false_iff_not, Bool.not_eq_true', Bool.not_eq_false', Int.not_lt, Int.not_le, Bool.not_true, Bool.not_false, Int.toNat_natCast, tn1, tn2, tnn, bne_iff_ne, beq_iff_eq, beq_eq_false_iff_ne, ne_eq, Decidable.not_not] at h1)
      -- region 5 ref.go:599
      have hpk := pk_yes (s := s) (a := t.a) (bad := t.bad) (by omega)
      refine AWp_regL ?_
      refine st rfl rfl rfl (op_moveO rfl rfl) ?_
      refine st rfl rfl rfl (op_callF rfl rfl rfl Tryd.func60 rfl rfl (callSA hp (object_r s n ih t p _ (get_setA hp) hs hb1.ok hpk.1 hpk.2.1 hn2))) ?_
      rw [vcells_eq (robj (rval n s) s t).1]
      refine stN rfl rfl ((by first | exact op_storeS (r := [_, _, _, _, _, _, _, _]) rfl Tryd.sizeOf28 rfl rfl rfl hp rfl (by decide) | exact op_storeSA (r := [_, _, _, _, _, _, _, _]) rfl Tryd.sizeOf28 rfl rfl rfl hp rfl (by decide) | exact op_storeOS (r := [_, _, _, _, _, _, _, _]) rfl Tryd.sizeOf28 rfl rfl rfl rfl rfl (by decide))) ?_
      refine AOps_nil ?_
      have hone : rone (rval n s) s t = robj (rval n s) s t := by unfold rone; rw [if_pos (by omega)]
      simp only [hone]
      exact ⟨(.sl false 8 (lcells (robj (rval n s) s t).1.l), .sl false 9 (mcells (robj (rval n s) s t).1.m), _), ⟨AVle.refl _, AVle.refl _⟩, ⟨rfl, rfl, rfl, rfl, trivial⟩, rfl⟩
    · (try rw [h1]); (try simp only [decide_eq_true_eq, decide_eq_false_iff_not, Bool.not_eq_true', Bool.not_eq_false', Int.not_lt, Int.not_le, Bool.not_true, Bool.not_false, Int.toNat_natCast, tn1, tn2, tnn, bne_iff_ne, beq_iff_eq, beq_eq_false_iff_ne, ne_eq, Decidable.not_not] at h1)
      refine AWp_seq ?_
      -- region 6 ref.go:600
      refine AWp_regL ?_
      refine st rfl rfl rfl (op_moveO rfl rfl) ?_
      refine st rfl rfl rfl (op_eql rfl rfl rfl) ?_
      refine AOps_nil ?_
      refine AWp_cond rfl (fun h2 => ?_) (fun h2 => ?_)
      · (try rw [h2]); (try simp only [decide_eq_true_eq, decide_eq_false_iff_not, Bool.not_eq_true', Bool.not_eq_false', Int.not_lt, Int.not_le, Bool.not_true, Bool.not_false, Int.toNat_natCast, tn1, tn2, tnn, bne_iff_ne, beq_iff_eq, beq_eq_false_iff_ne, ne_eq, Decidable.not_not] at h2)
        -- region 7 ref.go:601
        have hpk := pk_yes (s := s) (a := t.a) (bad := t.bad) (by omega)
        refine AWp_regL ?_
        refine st rfl rfl rfl (op_moveO rfl rfl) ?_
        refine st rfl rfl rfl (op_callF rfl rfl rfl Tryd.func61 rfl rfl (callSA hp (array_r s n ih t p _ (get_setA hp) hs hb1.ok hpk.1 hpk.2.1 hn2))) ?_
        rw [vcells_eq (rarr (rval n s) s t).1]
        refine stN rfl rfl ((by first | exact op_storeS (r := [_, _, _, _, _, _, _, _]) rfl Tryd.sizeOf28 rfl rfl rfl hp rfl (by decide) | exact op_storeSA (r := [_, _, _, _, _, _, _, _]) rfl Tryd.sizeOf28 rfl rfl rfl hp rfl (by decide) | exact op_storeOS (r := [_, _, _, _, _, _, _, _]) rfl Tryd.sizeOf28 rfl rfl rfl rfl rfl (by decide))) ?_
        refine AOps_nil ?_
        have hone : rone (rval n s) s t = rarr (rval n s) s t := by unfold rone; rw [if_neg (by omega), if_pos (by omega)]
        simp only [hone]
        exact ⟨(.sl false 8 (lcells (rarr (rval n s) s t).1.l), .sl false 9 (mcells (rarr (rval n s) s t).1.m), _), ⟨AVle.refl _, AVle.refl _⟩, ⟨rfl, rfl, rfl, rfl, trivial⟩, rfl⟩
      · (try rw [h2]); (try simp only [decide_eq_true_eq, decide_eq_false_iff_not, Bool.not_eq_true', Bool.not_eq_false', Int.not_lt, Int.not_le, Bool.not_true, Bool.not_false, Int.toNat_natCast, tn1, tn2, tnn, bne_iff_ne, beq_iff_eq, beq_eq_false_iff_ne, ne_eq, Decidable.not_not] at h2)
        refine AWp_seq ?_
        -- region 8 ref.go:602
        refine AWp_regL ?_
        refine st rfl rfl rfl (op_moveO rfl rfl) ?_
        refine st rfl rfl rfl (op_eql rfl rfl rfl) ?_
        refine AOps_nil ?_
        refine AWp_cond rfl (fun h3 => ?_) (fun h3 => ?_)
        · (try rw [h3]); (try simp only [decide_eq_true_eq, decide_eq_false_iff_not, Bool.not_eq_true', Bool.not_eq_false', Int.not_lt, Int.not_le, Bool.not_true, Bool.not_false, Int.toNat_natCast, tn1, tn2, tnn, bne_iff_ne, beq_iff_eq, beq_eq_false_iff_ne, ne_eq, Decidable.not_not] at h3)
          -- region 9 ref.go:603
          refine AWp_regL ?_
          refine st rfl rfl rfl (op_moveO rfl rfl) ?_
          refine st rfl rfl rfl (op_callF rfl rfl rfl Tryd.func62 rfl rfl (callSA hp (text_r s t p _ (get_setA hp) hs hb1.ok))) ?_
          refine st rfl rfl rfl (op_buildP (cs := [_, _, _, _, _, _, _, _]) [(0, 1), (1, 1), (2, 3), (5, 1), (6, 1), (7, 1)] rfl Tryd.underlying28 Tryd.zeroValue28 ⟨rfl, Tryd.sizeOf3, ⟨rfl, Tryd.sizeOf4, ⟨rfl, Tryd.sizeOf23, ⟨rfl, Tryd.sizeOf9, ⟨rfl, Tryd.sizeOf25, ⟨rfl, Tryd.sizeOf26, trivial⟩⟩⟩⟩⟩⟩ rfl rfl) ?_
          refine stN rfl rfl ((by first | exact op_storeS (r := [_, _, _, _, _, _, _, _]) rfl Tryd.sizeOf28 rfl rfl rfl hp rfl (by decide) | exact op_storeSA (r := [_, _, _, _, _, _, _, _]) rfl Tryd.sizeOf28 rfl rfl rfl hp rfl (by decide) | exact op_storeOS (r := [_, _, _, _, _, _, _, _]) rfl Tryd.sizeOf28 rfl rfl rfl rfl rfl (by decide))) ?_
          refine AOps_nil ?_
          have hone : rone (rval n s) s t = (.mk 3 false {} (rtext s t).1 [] [], (rtext s t).2) := by unfold rone; rw [if_neg (by omega), if_neg (by omega), if_pos (by omega)]
          simp only [hone]
          exact ⟨(.nils, .nils, _), ⟨nilL, nilM⟩, ⟨rfl, rfl, rfl, rfl, trivial⟩, rfl⟩
        · (try rw [h3]); (try simp only [decide_eq_true_eq, decide_eq_false_iff_not, Bool.not_eq_true', Bool.not_eq_false', Int.not_lt, Int.not_le, Bool.not_true, Bool.not_false, Int.toNat_natCast, tn1, tn2, tnn, bne_iff_ne, beq_iff_eq, beq_eq_false_iff_ne, ne_eq, Decidable.not_not] at h3)
          refine AWp_seq ?_
          -- region 10 ref.go:604
          refine AWp_regL ?_
          refine st rfl rfl rfl (op_moveO rfl rfl) ?_
          refine st rfl rfl rfl (op_eql rfl rfl rfl) ?_
          refine AOps_nil ?_
          refine AWp_cond rfl (fun h4 => ?_) (fun h4 => ?_)
          · (try rw [h4]); (try simp only [decide_eq_true_eq, decide_eq_false_iff_not, Bool.not_eq_true', Bool.not_eq_false', Int.not_lt, Int.not_le, Bool.not_true, Bool.not_false, Int.toNat_natCast, tn1, tn2, tnn, bne_iff_ne, beq_iff_eq, beq_eq_false_iff_ne, ne_eq, Decidable.not_not] at h4)
            -- region 11 ref.go:605
            refine AWp_regL ?_
            refine st rfl rfl rfl (op_moveO rfl rfl) ?_
            refine st rfl rfl rfl (op_callF rfl rfl rfl Tryd.func63 rfl rfl (callSA hp (want_c lNull s t p _ (get_setA hp) hs (by decide) hb1.ok))) ?_
            refine AOps_nil ?_
            have hone : rone (rval n s) s t = (vz, rwant s lNull t) := by unfold rone; rw [if_neg (by omega), if_neg (by omega), if_neg (by omega), if_pos (by omega)]
            simp only [hone]
            exact ⟨(.nils, .nils, _), ⟨nilL, nilM⟩, ⟨rfl, rfl, rfl, rfl, trivial⟩, rfl⟩
          · (try rw [h4]); (try simp only [decide_eq_true_eq, decide_eq_false_iff_not, Bool.not_eq_true', Bool.not_eq_false', Int.not_lt, Int.not_le, Bool.not_true, Bool.not_false, Int.toNat_natCast, tn1, tn2, tnn, bne_iff_ne, beq_iff_eq, beq_eq_false_iff_ne, ne_eq, Decidable.not_not] at h4)
            refine AWp_seq ?_
            -- region 12 ref.go:606
            refine AWp_regL ?_
            refine st rfl rfl rfl (op_moveO rfl rfl) ?_
            refine st rfl rfl rfl (op_eql rfl rfl rfl) ?_
            refine AOps_nil ?_
            refine AWp_cond rfl (fun h5 => ?_) (fun h5 => ?_)
            · (try rw [h5]); (try simp only [decide_eq_true_eq, decide_eq_false_iff_not, Bool.not_eq_true', Bool.not_eq_false', Int.not_lt, Int.not_le, Bool.not_true, Bool.not_false, Int.toNat_natCast, tn1, tn2, tnn, bne_iff_ne, beq_iff_eq, beq_eq_false_iff_ne, ne_eq, Decidable.not_not] at h5)
              refine AWp_seq ?_
              -- region 13 ref.go:607
              refine AWp_regL ?_
              refine st rfl rfl rfl (op_moveO rfl rfl) ?_
              refine st rfl rfl rfl (op_callF rfl rfl rfl Tryd.func63 rfl rfl (callSA hp (want_c lTrue s t p _ (get_setA hp) hs (by decide) hb1.ok))) ?_
              refine AOps_nil ?_
              -- region 14 ref.go:608
              refine AWp_regL ?_
              refine st rfl rfl rfl (op_buildP (cs := [_, _, _, _, _, _, _, _]) [(0, 1), (1, 1), (2, 3), (5, 1), (6, 1), (7, 1)] rfl Tryd.underlying28 Tryd.zeroValue28 ⟨rfl, Tryd.sizeOf3, ⟨rfl, Tryd.sizeOf4, ⟨rfl, Tryd.sizeOf23, ⟨rfl, Tryd.sizeOf9, ⟨rfl, Tryd.sizeOf25, ⟨rfl, Tryd.sizeOf26, trivial⟩⟩⟩⟩⟩⟩ rfl rfl) ?_
              refine stN rfl rfl ((by first | exact op_storeS (r := [_, _, _, _, _, _, _, _]) rfl Tryd.sizeOf28 rfl rfl rfl hp rfl (by decide) | exact op_storeSA (r := [_, _, _, _, _, _, _, _]) rfl Tryd.sizeOf28 rfl rfl rfl hp rfl (by decide) | exact op_storeOS (r := [_, _, _, _, _, _, _, _]) rfl Tryd.sizeOf28 rfl rfl rfl rfl rfl (by decide))) ?_
              refine AOps_nil ?_
              have hone : rone (rval n s) s t = (.mk 1 true {} e0 [] [], rwant s lTrue t) := by unfold rone; rw [if_neg (by omega), if_neg (by omega), if_neg (by omega), if_neg (by omega), if_pos (by omega)]
              simp only [hone]
              exact ⟨(.nils, .nils, _), ⟨nilL, nilM⟩, ⟨rfl, rfl, rfl, rfl, trivial⟩, rfl⟩
            · (try rw [h5]); (try simp only [decide_eq_true_eq, decide_eq_false_iff_not, Bool.not_eq_true', Bool.not_eq_false', Int.not_lt, Int.not_le, Bool.not_true, Bool.not_false, Int.toNat_natCast, tn1, tn2, tnn, bne_iff_ne, beq_iff_eq, beq_eq_false_iff_ne, ne_eq, Decidable.not_not] at h5)
              refine AWp_seq ?_
              -- region 15 ref.go:609
              refine AWp_regL ?_
              refine st rfl rfl rfl (op_moveO rfl rfl) ?_
              refine st rfl rfl rfl (op_eql rfl rfl rfl) ?_
              refine AOps_nil ?_
              refine AWp_cond rfl (fun h6 => ?_) (fun h6 => ?_)
              · (try rw [h6]); (try simp only [decide_eq_true_eq, decide_eq_false_iff_not, Bool.not_eq_true', Bool.not_eq_false', Int.not_lt, Int.not_le, Bool.not_true, Bool.not_false, Int.toNat_natCast, tn1, tn2, tnn, bne_iff_ne, beq_iff_eq, beq_eq_false_iff_ne, ne_eq, Decidable.not_not] at h6)
                refine AWp_seq ?_
                -- region 16 ref.go:610
                refine AWp_regL ?_
                refine st rfl rfl rfl (op_moveO rfl rfl) ?_
                refine st rfl rfl rfl (op_callF rfl rfl rfl Tryd.func63 rfl rfl (callSA hp (want_c lFalse s t p _ (get_setA hp) hs (by decide) hb1.ok))) ?_
                refine AOps_nil ?_
                -- region 17 ref.go:611
                refine AWp_regL ?_
                refine st rfl rfl rfl (op_buildP (cs := [_, _, _, _, _, _, _, _]) [(0, 1), (1, 1), (2, 3), (5, 1), (6, 1), (7, 1)] rfl Tryd.underlying28 Tryd.zeroValue28 ⟨rfl, Tryd.sizeOf3, ⟨rfl, Tryd.sizeOf4, ⟨rfl, Tryd.sizeOf23, ⟨rfl, Tryd.sizeOf9, ⟨rfl, Tryd.sizeOf25, ⟨rfl, Tryd.sizeOf26, trivial⟩⟩⟩⟩⟩⟩ rfl rfl) ?_
                refine stN rfl rfl ((by first | exact op_storeS (r := [_, _, _, _, _, _, _, _]) rfl Tryd.sizeOf28 rfl rfl rfl hp rfl (by decide) | exact op_storeSA (r := [_, _, _, _, _, _, _, _]) rfl Tryd.sizeOf28 rfl rfl rfl hp rfl (by decide) | exact op_storeOS (r := [_, _, _, _, _, _, _, _]) rfl Tryd.sizeOf28 rfl rfl rfl rfl rfl (by decide))) ?_
                refine AOps_nil ?_
                have hone : rone (rval n s) s t = (.mk 1 false {} e0 [] [], rwant s lFalse t) := by unfold rone; rw [if_neg (by omega), if_neg (by omega), if_neg (by omega), if_neg (by omega), if_neg (by omega), if_pos (by omega)]
                simp only [hone]
                exact ⟨(.nils, .nils, _), ⟨nilL, nilM⟩, ⟨rfl, rfl, rfl, rfl, trivial⟩, rfl⟩
              · (try rw [h6]); (try simp only [decide_eq_true_eq, decide_eq_false_iff_not, Bool.not_eq_true', Bool.not_eq_false', Int.not_lt, Int.not_le, Bool.not_true, Bool.not_false, Int.toNat_natCast, tn1, tn2, tnn, bne_iff_ne, beq_iff_eq, beq_eq_false_iff_ne, ne_eq, Decidable.not_not] at h6)
                refine AWp_seq ?_
                -- region 18 ref.go:612
                refine AWp_regL ?_
                refine st rfl rfl rfl (op_moveO rfl rfl) ?_
                refine st rfl rfl rfl (op_eql rfl rfl rfl) ?_
                refine st rfl rfl rfl (op_moveO rfl rfl) ?_
                refine AOps_split 42 rfl (fun h7 => ?_) (fun h7 => ?_)
                · rw [h7]; (try simp only [decide_eq_true_eq, decide_eq_false_iff_not, Bool.not_eq_true', Bool.not_eq_false', Int.not_lt, Int.not_le, Bool.not_true, Bool.not_false, Int.toNat_natCast, tn1, tn2, tnn, bne_iff_ne, beq_iff_eq, beq_eq_false_iff_ne, ne_eq, Decidable.not_not] at h7)
                  refine stS rfl rfl rfl (.inl rfl) rfl rfl ?_
                  refine stS rfl rfl rfl (.inl rfl) rfl rfl ?_
                  refine stS rfl rfl rfl (.inl rfl) rfl rfl ?_
                  refine stS rfl rfl rfl (.inr rfl) rfl rfl ?_
                  refine stS rfl rfl rfl (.inr rfl) rfl rfl ?_
                  refine stS rfl rfl rfl (.inl rfl) rfl rfl ?_
                  refine st rfl rfl rfl (op_pickTO rfl rfl rfl) ?_
                  refine AOps_nil ?_
                  refine AWp_condT rfl ?_
                  refine AWp_seq ?_
                  -- region 19 ref.go:613 DRAWN
                  have hpk := pk_yes (s := s) (a := t.a) (bad := t.bad) (by omega)
                  have hel := rEnd_le (s := s) (a := t.a) (by omega)
                  refine AWp_drawL #[0, 1, 3, 7, 0, 16, 48, 112, 255, 511, 1023, 1023, 2047, 8191] Tryd.mixed (by decide +kernel) (by decide +kernel) ?_
                  refine rA rfl rfl rfl rfl (fun _ => op_moveO rfl rfl) ?_
                  refine rA rfl rfl rfl rfl (fun _ => op_nilCheck rfl rfl rfl) ?_
                  refine rA rfl rfl rfl rfl (fun _ => op_fieldAddrO (fo := 0) rfl Tryd.underlying93 rfl rfl Tryd.sizeOf9 (by decide) rfl trivial) ?_
                  refine rP rfl rfl rfl rfl (op_load1 rfl Tryd.isAgg9 (by first | exact ldv_set hp rfl | exact ldv_setA hp rfl | exact ldv_ownS rfl rfl | exact ldv_pp rfl)) (trivial) ?_
                  refine rA rfl rfl rfl rfl (fun _ => op_moveO rfl rfl) ?_
                  refine rA rfl rfl rfl rfl (fun _ => op_nilCheck rfl rfl rfl) ?_
                  refine rA rfl rfl rfl rfl (fun _ => op_fieldAddrO (fo := 1) rfl Tryd.underlying93 rfl rfl Tryd.sizeOf3 (by decide) rfl trivial) ?_
                  refine rP rfl rfl rfl rfl (op_load1 rfl Tryd.isAgg3 (by first | exact ldv_set hp rfl | exact ldv_setA hp rfl | exact ldv_ownS rfl rfl | exact ldv_pp rfl)) (trivial) ?_
                  refine rP rfl rfl rfl rfl (op_callF rfl rfl rfl Tryd.func64 rfl rfl (end_c s t.a _ (by omega) (by omega))) (trivial) ?_
                  refine rA rfl rfl rfl rfl (fun _ => op_moveO rfl rfl) ?_
                  refine rA rfl rfl rfl rfl (fun _ => op_extract rfl rfl rfl) ?_
                  refine rA rfl rfl rfl rfl (fun _ => op_extract rfl rfl rfl) ?_
                  refine rA rfl rfl rfl rfl (fun _ => op_assignO rfl rfl) ?_
                  refine rA rfl rfl rfl rfl (fun _ => op_assignO rfl rfl) ?_
                  refine RP.nil rfl ?_
                  refine AWp_join (ι := RS) (fun y => y = (if (rEnd s t.a).2 = true then t else rfail t (rEnd s t.a).1 1) ∧ y.a = t.a ∧ y.deep = t.deep) (fun y => ⟨[], [(0, .ptr p 0), (2, .ptr (σ.length + 0) 0), (3, .ptr (σ.length + 1) 0), (5, .int .i64 ((rEnd s t.a).1 : Int))]⟩) (fun y => σ.set p (rbox s y) ++ [.box [.int .i64 0, .bool false, .bool false, .str e0, .int .i64 0, .str e0, .nils, .nils], .box [.int .i64 0, .bool false, .bool false, .str e0, .int .i64 0, .str e0, .nils, .nils]]) ?_ (fun y hj => ?_)
                  · skip
                    refine AWp_seq ?_
                    -- region 20 ref.go:614
                    refine AWp_regL ?_
                    refine st rfl rfl rfl (op_moveO rfl rfl) ?_
                    refine st rfl rfl rfl (op_not rfl rfl) ?_
                    refine AOps_nil ?_
                    refine AWp_cond rfl (fun h8 => ?_) (fun h8 => ?_)
                    · (try rw [h8]); (try simp only [decide_eq_true_eq, decide_eq_false_iff_not, Bool.not_eq_true', Bool.not_eq_false', Int.not_lt, Int.not_le, Bool.not_true, Bool.not_false, Int.toNat_natCast, tn1, tn2, tnn, bne_iff_ne, beq_iff_eq, beq_eq_false_iff_ne, ne_eq, Decidable.not_not] at h8)
                      -- region 21 ref.go:615
                      refine AWp_regL ?_
                      refine st rfl rfl rfl (op_moveO rfl rfl) ?_
                      refine st rfl rfl rfl (op_moveO rfl rfl) ?_
                      refine st rfl rfl rfl (op_callF rfl rfl rfl Tryd.func53 rfl rfl (callSA hp (fail_r s t p _ (get_setA hp) ((rEnd s t.a).1 : Int) 1))) ?_
                      refine AOps_nil ?_
                      first | exact ⟨rfail t (rEnd s t.a).1 1, ⟨by rw [if_neg (by simp [*])], rfl, rfl⟩, ⟨rfl, rfl, rfl, rfl, rfl, trivial⟩, rfl⟩ | exact ⟨t, ⟨by rw [if_pos (by simp [*])], rfl, rfl⟩, ⟨rfl, rfl, rfl, rfl, rfl, trivial⟩, rfl⟩
                    · (try rw [h8]); (try simp only [decide_eq_true_eq, decide_eq_false_iff_not, Bool.not_eq_true', Bool.not_eq_false', Int.not_lt, Int.not_le, Bool.not_true, Bool.not_false, Int.toNat_natCast, tn1, tn2, tnn, bne_iff_ne, beq_iff_eq, beq_eq_false_iff_ne, ne_eq, Decidable.not_not] at h8)
                      refine AWp_skip ?_
                      first | exact ⟨rfail t (rEnd s t.a).1 1, ⟨by rw [if_neg (by simp [*])], rfl, rfl⟩, ⟨rfl, rfl, rfl, rfl, rfl, trivial⟩, rfl⟩ | exact ⟨t, ⟨by rw [if_pos (by simp [*])], rfl, rfl⟩, ⟨rfl, rfl, rfl, rfl, rfl, trivial⟩, rfl⟩
                  · skip
                    obtain ⟨hy1, hy2, hy3⟩ := hj
                    refine AWp_seq ?_
                    -- region 22 ref.go:617 DRAWN
                    refine AWp_drawL #[0, 1, 3, 7, 0, 16, 48, 112, 0, 511, 1023, 2047, 4095, 4095, 0, 24575, 65535] Tryd.mixed (by decide +kernel) (by decide +kernel) ?_
                    refine rA rfl rfl rfl rfl (fun _ => op_moveO rfl rfl) ?_
                    refine rA rfl rfl rfl rfl (fun _ => op_nilCheck rfl rfl rfl) ?_
                    refine rA rfl rfl rfl rfl (fun _ => op_fieldAddrO (fo := 0) rfl Tryd.underlying93 rfl rfl Tryd.sizeOf9 (by decide) rfl trivial) ?_
                    refine rP rfl rfl rfl rfl (op_load1 rfl Tryd.isAgg9 (by first | exact ldv_set hp rfl | exact ldv_setA hp rfl | exact ldv_ownS rfl rfl | exact ldv_pp rfl)) (trivial) ?_
                    refine rA rfl rfl rfl rfl (fun _ => op_moveO rfl rfl) ?_
                    refine rA rfl rfl rfl rfl (fun _ => op_nilCheck rfl rfl rfl) ?_
                    refine rA rfl rfl rfl rfl (fun _ => op_fieldAddrO (fo := 1) rfl Tryd.underlying93 rfl rfl Tryd.sizeOf3 (by decide) rfl trivial) ?_
                    refine rP rfl rfl rfl rfl (op_load1 rfl Tryd.isAgg3 (by first | exact ldv_set hp rfl | exact ldv_setA hp rfl | exact ldv_ownS rfl rfl | exact ldv_pp rfl)) (trivial) ?_
                    refine rA rfl rfl rfl rfl (fun _ => op_moveO rfl rfl) ?_
                    refine rA rfl rfl rfl rfl (fun _ => op_slice_str _ _ rfl Tryd.underlying9 rfl (by first | exact ⟨_, rfl⟩ | rfl) (by first | exact ⟨_, rfl⟩ | rfl) (by omega) (by omega) (by omega)) ?_
                    simp only [Int.toNat_natCast, hy2]
                    refine rP rfl rfl rfl rfl (op_callF rfl rfl rfl Tryd.func65 rfl rfl (rnum_c (s.extract t.a (rEnd s t.a).1) _ (by rw [ByteArray.size_extract]; omega))) (trivial) ?_
                    refine rA rfl rfl rfl rfl (fun _ => op_moveO rfl rfl) ?_
                    refine rA rfl rfl rfl rfl (fun _ => op_extract rfl rfl rfl) ?_
                    refine rA rfl rfl rfl rfl (fun _ => op_extract rfl rfl rfl) ?_
                    refine rE rfl rfl rfl rfl (op_allocS (cs := [_, _, _]) 2 rfl rfl Tryd.zeroValue23 rfl) (⟨.inr (op_callF rfl rfl rfl Tryd.func65 rfl rfl (rnum_c (s.extract t.a (rEnd s t.a).1) _ (by rw [ByteArray.size_extract]; omega))), ⟨.inr (op_load1 rfl Tryd.isAgg3 (ldv_setA hp (by rw [← hy2]; rfl))), ⟨.inr (op_load1 rfl Tryd.isAgg9 (ldv_setA hp rfl)), trivial⟩⟩⟩) (trivial) ?_
                    refine rEN rfl rfl rfl ((by first | exact op_storeS (r := [_, _, _]) rfl Tryd.sizeOf23 rfl rfl rfl hp rfl (by decide) | exact op_storeSA (r := [_, _, _]) rfl Tryd.sizeOf23 rfl rfl rfl hp rfl (by decide) | exact op_storeOS (r := [_, _, _]) rfl Tryd.sizeOf23 rfl rfl rfl rfl rfl (by decide))) (⟨.inl rfl, ⟨.inl rfl, ⟨.inl rfl, trivial⟩⟩⟩) (⟨rfl, trivial⟩) ?_
                    refine rA rfl rfl rfl rfl (fun _ => op_assignO rfl rfl) ?_
                    refine RP.nil rfl ?_
                    refine AWp_join (ι := RS) (fun x => x = (if (rNum (s.extract t.a (rEnd s t.a).1)).2 = 0 then (if (rEnd s t.a).2 = true then t else rfail t (rEnd s t.a).1 1) else rfail (if (rEnd s t.a).2 = true then t else rfail t (rEnd s t.a).1 1) t.a 5) ∧ x.a = t.a ∧ x.deep = t.deep) (fun x => ⟨[], [(0, .ptr p 0), (2, .ptr (σ.length + 0) 0), (3, .ptr (σ.length + 1) 0), (5, .int .i64 ((rEnd s t.a).1 : Int)), (7, .ptr (σ.length + 2) 0)]⟩) (fun x => σ.set p (rbox s x) ++ [.box [.int .i64 0, .bool false, .bool false, .str e0, .int .i64 0, .str e0, .nils, .nils], .box [.int .i64 0, .bool false, .bool false, .str e0, .int .i64 0, .str e0, .nils, .nils], .box (ncells (rNum (s.extract t.a (rEnd s t.a).1)).1)]) ?_ (fun x hj => ?_)
                    · skip
                      refine AWp_seq ?_
                      -- region 23 ref.go:618
                      refine AWp_regL ?_
                      refine st rfl rfl rfl (op_moveO rfl rfl) ?_
                      refine st rfl rfl rfl (op_neq rfl rfl rfl) ?_
                      refine AOps_nil ?_
                      refine AWp_cond rfl (fun h9 => ?_) (fun h9 => ?_)
                      · (try rw [h9]); (try simp only [decide_eq_true_eq, decide_eq_false_iff_not, Bool.not_eq_true', Bool.not_eq_false', Int.not_lt, Int.not_le, Bool.not_true, Bool.not_false, Int.toNat_natCast, tn1, tn2, tnn, bne_iff_ne, beq_iff_eq, beq_eq_false_iff_ne, ne_eq, Decidable.not_not] at h9)
                        -- region 24 ref.go:619
                        refine AWp_regL ?_
                        refine st rfl rfl rfl (op_moveO rfl rfl) ?_
                        refine st rfl rfl rfl (op_moveO rfl rfl) ?_
                        refine st rfl rfl rfl (op_nilCheck rfl rfl rfl) ?_
                        refine st rfl rfl rfl (op_fieldAddrO (fo := 1) rfl Tryd.underlying93 rfl rfl Tryd.sizeOf3 (by decide) rfl trivial) ?_
                        refine st rfl rfl rfl (op_load1 rfl Tryd.isAgg3 (by first | exact ldv_set hp rfl | exact ldv_setA hp rfl | exact ldv_ownS rfl rfl | exact ldv_pp rfl)) ?_
                        refine st rfl rfl rfl (op_callF rfl rfl rfl Tryd.func53 rfl rfl (callSA hp (fail_r s y p _ (get_setA hp) (y.a : Int) 5))) ?_
                        refine AOps_nil ?_
                        first | exact ⟨rfail y y.a 5, ⟨by rw [if_neg (by assumption), ← hy1, hy2], hy2, hy3⟩, ⟨rfl, rfl, rfl, rfl, rfl, rfl, trivial⟩, rfl⟩ | exact ⟨y, ⟨by rw [if_pos (by assumption), ← hy1], hy2, hy3⟩, ⟨rfl, rfl, rfl, rfl, rfl, rfl, trivial⟩, rfl⟩
                      · (try rw [h9]); (try simp only [decide_eq_true_eq, decide_eq_false_iff_not, Bool.not_eq_true', Bool.not_eq_false', Int.not_lt, Int.not_le, Bool.not_true, Bool.not_false, Int.toNat_natCast, tn1, tn2, tnn, bne_iff_ne, beq_iff_eq, beq_eq_false_iff_ne, ne_eq, Decidable.not_not] at h9)
                        refine AWp_skip ?_
                        first | exact ⟨rfail y y.a 5, ⟨by rw [if_neg (by assumption), ← hy1, hy2], hy2, hy3⟩, ⟨rfl, rfl, rfl, rfl, rfl, rfl, trivial⟩, rfl⟩ | exact ⟨y, ⟨by rw [if_pos (by assumption), ← hy1], hy2, hy3⟩, ⟨rfl, rfl, rfl, rfl, rfl, rfl, trivial⟩, rfl⟩
                    · skip
                      obtain ⟨hx1, hx2, hx3⟩ := hj
                      refine AWp_seq ?_
                      -- region 25 ref.go:621
                      refine AWp_regL ?_
                      refine st rfl rfl rfl (op_moveO rfl rfl) ?_
                      refine st rfl rfl rfl (op_moveO rfl rfl) ?_
                      refine st rfl rfl rfl (op_nilCheck rfl rfl rfl) ?_
                      refine st rfl rfl rfl (op_fieldAddrO (fo := 1) rfl Tryd.underlying93 rfl rfl Tryd.sizeOf3 (by decide) rfl trivial) ?_
                      refine stN rfl rfl ((by first | exact op_storeS (r := [_, _, _, _, _]) rfl Tryd.sizeOf3 rfl rfl rfl hp rfl (by decide) | exact op_storeSA (r := [_, _, _, _, _]) rfl Tryd.sizeOf3 rfl rfl rfl hp rfl (by decide) | exact op_storeOS (r := [_, _, _, _, _]) rfl Tryd.sizeOf3 rfl rfl rfl rfl rfl (by decide))) ?_
                      refine AOps_nil ?_
                      -- region 26 ref.go:622
                      refine AWp_regL ?_
                      refine st rfl rfl rfl (op_loadK (cs := [_, _, _]) rfl Tryd.isAgg23 Tryd.sizeOf23 (by first | exact ldv_set hp rfl | exact ldv_setA hp rfl | exact ldv_ownS rfl rfl | exact ldv_pp rfl)) ?_
                      refine st rfl rfl rfl (op_buildP (cs := [_, _, _, _, _, _, _, _]) [(0, 1), (1, 1), (2, 3), (5, 1), (6, 1), (7, 1)] rfl Tryd.underlying28 Tryd.zeroValue28 ⟨rfl, Tryd.sizeOf3, ⟨rfl, Tryd.sizeOf4, ⟨rfl, Tryd.sizeOf23, ⟨rfl, Tryd.sizeOf9, ⟨rfl, Tryd.sizeOf25, ⟨rfl, Tryd.sizeOf26, trivial⟩⟩⟩⟩⟩⟩ rfl rfl) ?_
                      refine stN rfl rfl ((by first | exact op_storeS (r := [_, _, _, _, _, _, _, _]) rfl Tryd.sizeOf28 rfl rfl rfl hp rfl (by decide) | exact op_storeSA (r := [_, _, _, _, _, _, _, _]) rfl Tryd.sizeOf28 rfl rfl rfl hp rfl (by decide) | exact op_storeOS (r := [_, _, _, _, _, _, _, _]) rfl Tryd.sizeOf28 rfl rfl rfl rfl rfl (by decide))) ?_
                      refine AOps_nil ?_
                      have hone : rone (rval n s) s t = rnumv s t := by unfold rone; rw [if_neg (by omega), if_neg (by omega), if_neg (by omega), if_neg (by omega), if_neg (by omega), if_neg (by omega), if_pos (by omega)]
                      have hnum : rnumv s t = (.mk 2 false (rNum (s.extract t.a (rEnd s t.a).1)).1 e0 [] [], ⟨(rEnd s t.a).1, x.deep, x.bad, x.spot⟩) := by rw [hx3]; unfold rnumv; rw [← hx1]
                      simp only [hone, hnum]
                      exact ⟨(.nils, .nils, _), ⟨nilL, nilM⟩, ⟨rfl, rfl, rfl, rfl, trivial⟩, rfl⟩
                · rw [h7]; (try simp only [decide_eq_true_eq, decide_eq_false_iff_not, Bool.not_eq_true', Bool.not_eq_false', Int.not_lt, Int.not_le, Bool.not_true, Bool.not_false, Int.toNat_natCast, tn1, tn2, tnn, bne_iff_ne, beq_iff_eq, beq_eq_false_iff_ne, ne_eq, Decidable.not_not] at h7)
                  refine stG rfl rfl rfl rfl rfl rfl (op_moveO rfl rfl) ?_
                  refine stG rfl rfl rfl rfl rfl rfl (op_geq rfl rfl rfl) ?_
                  refine stG rfl rfl rfl rfl rfl rfl (op_moveO rfl rfl) ?_
                  refine AOps_split 45 rfl (fun h10 => ?_) (fun h10 => ?_)
                  · rw [h10]; (try simp only [decide_eq_true_eq, decide_eq_false_iff_not, Bool.not_eq_true', Bool.not_eq_false', Int.not_lt, Int.not_le, Bool.not_true, Bool.not_false, Int.toNat_natCast, tn1, tn2, tnn, bne_iff_ne, beq_iff_eq, beq_eq_false_iff_ne, ne_eq, Decidable.not_not] at h10)
                    refine stG rfl rfl rfl rfl rfl rfl (op_moveO rfl rfl) ?_
                    refine stG rfl rfl rfl rfl rfl rfl (op_leq rfl rfl rfl) ?_
                    refine stG rfl rfl rfl rfl rfl rfl (op_pickTO rfl rfl rfl) ?_
                    refine st rfl rfl rfl (op_pickFO rfl rfl rfl) ?_
                    refine AOps_nil ?_
                    refine AWp_cond rfl (fun h11 => ?_) (fun h11 => ?_)
                    · (try rw [h11]); (try simp only [decide_eq_true_eq, decide_eq_false_iff_not, Bool.not_eq_true', Bool.not_eq_false', Int.not_lt, Int.not_le, Bool.not_true, Bool.not_false, Int.toNat_natCast, tn1, tn2, tnn, bne_iff_ne, beq_iff_eq, beq_eq_false_iff_ne, ne_eq, Decidable.not_not] at h11)
                      refine AWp_seq ?_
                      -- region 19 ref.go:613 DRAWN
                      have hpk := pk_yes (s := s) (a := t.a) (bad := t.bad) (by omega)
                      have hel := rEnd_le (s := s) (a := t.a) (by omega)
                      refine AWp_drawL #[0, 1, 3, 7, 0, 16, 48, 112, 255, 511, 1023, 1023, 2047, 8191] Tryd.mixed (by decide +kernel) (by decide +kernel) ?_
                      refine rA rfl rfl rfl rfl (fun _ => op_moveO rfl rfl) ?_
                      refine rA rfl rfl rfl rfl (fun _ => op_nilCheck rfl rfl rfl) ?_
                      refine rA rfl rfl rfl rfl (fun _ => op_fieldAddrO (fo := 0) rfl Tryd.underlying93 rfl rfl Tryd.sizeOf9 (by decide) rfl trivial) ?_
                      refine rP rfl rfl rfl rfl (op_load1 rfl Tryd.isAgg9 (by first | exact ldv_set hp rfl | exact ldv_setA hp rfl | exact ldv_ownS rfl rfl | exact ldv_pp rfl)) (trivial) ?_
                      refine rA rfl rfl rfl rfl (fun _ => op_moveO rfl rfl) ?_
                      refine rA rfl rfl rfl rfl (fun _ => op_nilCheck rfl rfl rfl) ?_
                      refine rA rfl rfl rfl rfl (fun _ => op_fieldAddrO (fo := 1) rfl Tryd.underlying93 rfl rfl Tryd.sizeOf3 (by decide) rfl trivial) ?_
                      refine rP rfl rfl rfl rfl (op_load1 rfl Tryd.isAgg3 (by first | exact ldv_set hp rfl | exact ldv_setA hp rfl | exact ldv_ownS rfl rfl | exact ldv_pp rfl)) (trivial) ?_
                      refine rP rfl rfl rfl rfl (op_callF rfl rfl rfl Tryd.func64 rfl rfl (end_c s t.a _ (by omega) (by omega))) (trivial) ?_
                      refine rA rfl rfl rfl rfl (fun _ => op_moveO rfl rfl) ?_
                      refine rA rfl rfl rfl rfl (fun _ => op_extract rfl rfl rfl) ?_
                      refine rA rfl rfl rfl rfl (fun _ => op_extract rfl rfl rfl) ?_
                      refine rA rfl rfl rfl rfl (fun _ => op_assignO rfl rfl) ?_
                      refine rA rfl rfl rfl rfl (fun _ => op_assignO rfl rfl) ?_
                      refine RP.nil rfl ?_
                      refine AWp_join (ι := RS) (fun y => y = (if (rEnd s t.a).2 = true then t else rfail t (rEnd s t.a).1 1) ∧ y.a = t.a ∧ y.deep = t.deep) (fun y => ⟨[], [(0, .ptr p 0), (2, .ptr (σ.length + 0) 0), (3, .ptr (σ.length + 1) 0), (5, .int .i64 ((rEnd s t.a).1 : Int))]⟩) (fun y => σ.set p (rbox s y) ++ [.box [.int .i64 0, .bool false, .bool false, .str e0, .int .i64 0, .str e0, .nils, .nils], .box [.int .i64 0, .bool false, .bool false, .str e0, .int .i64 0, .str e0, .nils, .nils]]) ?_ (fun y hj => ?_)
                      · skip
                        refine AWp_seq ?_
                        -- region 20 ref.go:614
                        refine AWp_regL ?_
                        refine st rfl rfl rfl (op_moveO rfl rfl) ?_
                        refine st rfl rfl rfl (op_not rfl rfl) ?_
                        refine AOps_nil ?_
                        refine AWp_cond rfl (fun h12 => ?_) (fun h12 => ?_)
                        · (try rw [h12]); (try simp only [decide_eq_true_eq, decide_eq_false_iff_not, Bool.not_eq_true', Bool.not_eq_false', Int.not_lt, Int.not_le, Bool.not_true, Bool.not_false, Int.toNat_natCast, tn1, tn2, tnn, bne_iff_ne, beq_iff_eq, beq_eq_false_iff_ne, ne_eq, Decidable.not_not] at h12)
                          -- region 21 ref.go:615
                          refine AWp_regL ?_
                          refine st rfl rfl rfl (op_moveO rfl rfl) ?_
                          refine st rfl rfl rfl (op_moveO rfl rfl) ?_
                          refine st rfl rfl rfl (op_callF rfl rfl rfl Tryd.func53 rfl rfl (callSA hp (fail_r s t p _ (get_setA hp) ((rEnd s t.a).1 : Int) 1))) ?_
                          refine AOps_nil ?_
                          first | exact ⟨rfail t (rEnd s t.a).1 1, ⟨by rw [if_neg (by simp [*])], rfl, rfl⟩, ⟨rfl, rfl, rfl, rfl, rfl, trivial⟩, rfl⟩ | exact ⟨t, ⟨by rw [if_pos (by simp [*])], rfl, rfl⟩, ⟨rfl, rfl, rfl, rfl, rfl, trivial⟩, rfl⟩
                        · (try rw [h12]); (try simp only [decide_eq_true_eq, decide_eq_false_iff_not, Bool.not_eq_true', Bool.not_eq_false', Int.not_lt, Int.not_le, Bool.not_true, Bool.not_false, Int.toNat_natCast, tn1, tn2, tnn, bne_iff_ne, beq_iff_eq, beq_eq_false_iff_ne, ne_eq, Decidable.not_not] at h12)
                          refine AWp_skip ?_
                          first | exact ⟨rfail t (rEnd s t.a).1 1, ⟨by rw [if_neg (by simp [*])], rfl, rfl⟩, ⟨rfl, rfl, rfl, rfl, rfl, trivial⟩, rfl⟩ | exact ⟨t, ⟨by rw [if_pos (by simp [*])], rfl, rfl⟩, ⟨rfl, rfl, rfl, rfl, rfl, trivial⟩, rfl⟩
                      · skip
                        obtain ⟨hy1, hy2, hy3⟩ := hj
                        refine AWp_seq ?_
                        -- region 22 ref.go:617 DRAWN
                        refine AWp_drawL #[0, 1, 3, 7, 0, 16, 48, 112, 0, 511, 1023, 2047, 4095, 4095, 0, 24575, 65535] Tryd.mixed (by decide +kernel) (by decide +kernel) ?_
                        refine rA rfl rfl rfl rfl (fun _ => op_moveO rfl rfl) ?_
                        refine rA rfl rfl rfl rfl (fun _ => op_nilCheck rfl rfl rfl) ?_
                        refine rA rfl rfl rfl rfl (fun _ => op_fieldAddrO (fo := 0) rfl Tryd.underlying93 rfl rfl Tryd.sizeOf9 (by decide) rfl trivial) ?_
                        refine rP rfl rfl rfl rfl (op_load1 rfl Tryd.isAgg9 (by first | exact ldv_set hp rfl | exact ldv_setA hp rfl | exact ldv_ownS rfl rfl | exact ldv_pp rfl)) (trivial) ?_
                        refine rA rfl rfl rfl rfl (fun _ => op_moveO rfl rfl) ?_
                        refine rA rfl rfl rfl rfl (fun _ => op_nilCheck rfl rfl rfl) ?_
                        refine rA rfl rfl rfl rfl (fun _ => op_fieldAddrO (fo := 1) rfl Tryd.underlying93 rfl rfl Tryd.sizeOf3 (by decide) rfl trivial) ?_
                        refine rP rfl rfl rfl rfl (op_load1 rfl Tryd.isAgg3 (by first | exact ldv_set hp rfl | exact ldv_setA hp rfl | exact ldv_ownS rfl rfl | exact ldv_pp rfl)) (trivial) ?_
                        refine rA rfl rfl rfl rfl (fun _ => op_moveO rfl rfl) ?_
                        refine rA rfl rfl rfl rfl (fun _ => op_slice_str _ _ rfl Tryd.underlying9 rfl (by first | exact ⟨_, rfl⟩ | rfl) (by first | exact ⟨_, rfl⟩ | rfl) (by omega) (by omega) (by omega)) ?_
                        simp only [Int.toNat_natCast, hy2]
                        refine rP rfl rfl rfl rfl (op_callF rfl rfl rfl Tryd.func65 rfl rfl (rnum_c (s.extract t.a (rEnd s t.a).1) _ (by rw [ByteArray.size_extract]; omega))) (trivial) ?_
                        refine rA rfl rfl rfl rfl (fun _ => op_moveO rfl rfl) ?_
                        refine rA rfl rfl rfl rfl (fun _ => op_extract rfl rfl rfl) ?_
                        refine rA rfl rfl rfl rfl (fun _ => op_extract rfl rfl rfl) ?_
                        refine rE rfl rfl rfl rfl (op_allocS (cs := [_, _, _]) 2 rfl rfl Tryd.zeroValue23 rfl) (⟨.inr (op_callF rfl rfl rfl Tryd.func65 rfl rfl (rnum_c (s.extract t.a (rEnd s t.a).1) _ (by rw [ByteArray.size_extract]; omega))), ⟨.inr (op_load1 rfl Tryd.isAgg3 (ldv_setA hp (by rw [← hy2]; rfl))), ⟨.inr (op_load1 rfl Tryd.isAgg9 (ldv_setA hp rfl)), trivial⟩⟩⟩) (trivial) ?_
                        refine rEN rfl rfl rfl ((by first | exact op_storeS (r := [_, _, _]) rfl Tryd.sizeOf23 rfl rfl rfl hp rfl (by decide) | exact op_storeSA (r := [_, _, _]) rfl Tryd.sizeOf23 rfl rfl rfl hp rfl (by decide) | exact op_storeOS (r := [_, _, _]) rfl Tryd.sizeOf23 rfl rfl rfl rfl rfl (by decide))) (⟨.inl rfl, ⟨.inl rfl, ⟨.inl rfl, trivial⟩⟩⟩) (⟨rfl, trivial⟩) ?_
                        refine rA rfl rfl rfl rfl (fun _ => op_assignO rfl rfl) ?_
                        refine RP.nil rfl ?_
                        refine AWp_join (ι := RS) (fun x => x = (if (rNum (s.extract t.a (rEnd s t.a).1)).2 = 0 then (if (rEnd s t.a).2 = true then t else rfail t (rEnd s t.a).1 1) else rfail (if (rEnd s t.a).2 = true then t else rfail t (rEnd s t.a).1 1) t.a 5) ∧ x.a = t.a ∧ x.deep = t.deep) (fun x => ⟨[], [(0, .ptr p 0), (2, .ptr (σ.length + 0) 0), (3, .ptr (σ.length + 1) 0), (5, .int .i64 ((rEnd s t.a).1 : Int)), (7, .ptr (σ.length + 2) 0)]⟩) (fun x => σ.set p (rbox s x) ++ [.box [.int .i64 0, .bool false, .bool false, .str e0, .int .i64 0, .str e0, .nils, .nils], .box [.int .i64 0, .bool false, .bool false, .str e0, .int .i64 0, .str e0, .nils, .nils], .box (ncells (rNum (s.extract t.a (rEnd s t.a).1)).1)]) ?_ (fun x hj => ?_)
                        · skip
                          refine AWp_seq ?_
                          -- region 23 ref.go:618
                          refine AWp_regL ?_
                          refine st rfl rfl rfl (op_moveO rfl rfl) ?_
                          refine st rfl rfl rfl (op_neq rfl rfl rfl) ?_
                          refine AOps_nil ?_
                          refine AWp_cond rfl (fun h13 => ?_) (fun h13 => ?_)
                          · (try rw [h13]); (try simp only [decide_eq_true_eq, decide_eq_false_iff_not, Bool.not_eq_true', Bool.not_eq_false', Int.not_lt, Int.not_le, Bool.not_true, Bool.not_false, Int.toNat_natCast, tn1, tn2, tnn, bne_iff_ne, beq_iff_eq, beq_eq_false_iff_ne, ne_eq, Decidable.not_not] at h13)
                            -- region 24 ref.go:619
                            refine AWp_regL ?_
                            refine st rfl rfl rfl (op_moveO rfl rfl) ?_
                            refine st rfl rfl rfl (op_moveO rfl rfl) ?_
                            refine st rfl rfl rfl (op_nilCheck rfl rfl rfl) ?_
                            refine st rfl rfl rfl (op_fieldAddrO (fo := 1) rfl Tryd.underlying93 rfl rfl Tryd.sizeOf3 (by decide) rfl trivial) ?_
                            refine st rfl rfl rfl (op_load1 rfl Tryd.isAgg3 (by first | exact ldv_set hp rfl | exact ldv_setA hp rfl | exact ldv_ownS rfl rfl | exact ldv_pp rfl)) ?_
                            refine st rfl rfl rfl (op_callF rfl rfl rfl Tryd.func53 rfl rfl (callSA hp (fail_r s y p _ (get_setA hp) (y.a : Int) 5))) ?_
                            refine AOps_nil ?_
                            first | exact ⟨rfail y y.a 5, ⟨by rw [if_neg (by assumption), ← hy1, hy2], hy2, hy3⟩, ⟨rfl, rfl, rfl, rfl, rfl, rfl, trivial⟩, rfl⟩ | exact ⟨y, ⟨by rw [if_pos (by assumption), ← hy1], hy2, hy3⟩, ⟨rfl, rfl, rfl, rfl, rfl, rfl, trivial⟩, rfl⟩
                          · (try rw [h13]); (try simp only [decide_eq_true_eq, decide_eq_false_iff_not, Bool.not_eq_true', Bool.not_eq_false', Int.not_lt, Int.not_le, Bool.not_true, Bool.not_false, Int.toNat_natCast, tn1, tn2, tnn, bne_iff_ne, beq_iff_eq, beq_eq_false_iff_ne, ne_eq, Decidable.not_not] at h13)
                            refine AWp_skip ?_
                            first | exact ⟨rfail y y.a 5, ⟨by rw [if_neg (by assumption), ← hy1, hy2], hy2, hy3⟩, ⟨rfl, rfl, rfl, rfl, rfl, rfl, trivial⟩, rfl⟩ | exact ⟨y, ⟨by rw [if_pos (by assumption), ← hy1], hy2, hy3⟩, ⟨rfl, rfl, rfl, rfl, rfl, rfl, trivial⟩, rfl⟩
                        · skip
                          obtain ⟨hx1, hx2, hx3⟩ := hj
                          refine AWp_seq ?_
                          -- region 25 ref.go:621
                          refine AWp_regL ?_
                          refine st rfl rfl rfl (op_moveO rfl rfl) ?_
                          refine st rfl rfl rfl (op_moveO rfl rfl) ?_
                          refine st rfl rfl rfl (op_nilCheck rfl rfl rfl) ?_
                          refine st rfl rfl rfl (op_fieldAddrO (fo := 1) rfl Tryd.underlying93 rfl rfl Tryd.sizeOf3 (by decide) rfl trivial) ?_
                          refine stN rfl rfl ((by first | exact op_storeS (r := [_, _, _, _, _]) rfl Tryd.sizeOf3 rfl rfl rfl hp rfl (by decide) | exact op_storeSA (r := [_, _, _, _, _]) rfl Tryd.sizeOf3 rfl rfl rfl hp rfl (by decide) | exact op_storeOS (r := [_, _, _, _, _]) rfl Tryd.sizeOf3 rfl rfl rfl rfl rfl (by decide))) ?_
                          refine AOps_nil ?_
                          -- region 26 ref.go:622
                          refine AWp_regL ?_
                          refine st rfl rfl rfl (op_loadK (cs := [_, _, _]) rfl Tryd.isAgg23 Tryd.sizeOf23 (by first | exact ldv_set hp rfl | exact ldv_setA hp rfl | exact ldv_ownS rfl rfl | exact ldv_pp rfl)) ?_
                          refine st rfl rfl rfl (op_buildP (cs := [_, _, _, _, _, _, _, _]) [(0, 1), (1, 1), (2, 3), (5, 1), (6, 1), (7, 1)] rfl Tryd.underlying28 Tryd.zeroValue28 ⟨rfl, Tryd.sizeOf3, ⟨rfl, Tryd.sizeOf4, ⟨rfl, Tryd.sizeOf23, ⟨rfl, Tryd.sizeOf9, ⟨rfl, Tryd.sizeOf25, ⟨rfl, Tryd.sizeOf26, trivial⟩⟩⟩⟩⟩⟩ rfl rfl) ?_
                          refine stN rfl rfl ((by first | exact op_storeS (r := [_, _, _, _, _, _, _, _]) rfl Tryd.sizeOf28 rfl rfl rfl hp rfl (by decide) | exact op_storeSA (r := [_, _, _, _, _, _, _, _]) rfl Tryd.sizeOf28 rfl rfl rfl hp rfl (by decide) | exact op_storeOS (r := [_, _, _, _, _, _, _, _]) rfl Tryd.sizeOf28 rfl rfl rfl rfl rfl (by decide))) ?_
                          refine AOps_nil ?_
                          have hone : rone (rval n s) s t = rnumv s t := by unfold rone; rw [if_neg (by omega), if_neg (by omega), if_neg (by omega), if_neg (by omega), if_neg (by omega), if_neg (by omega), if_pos (by omega)]
                          have hnum : rnumv s t = (.mk 2 false (rNum (s.extract t.a (rEnd s t.a).1)).1 e0 [] [], ⟨(rEnd s t.a).1, x.deep, x.bad, x.spot⟩) := by rw [hx3]; unfold rnumv; rw [← hx1]
                          simp only [hone, hnum]
                          exact ⟨(.nils, .nils, _), ⟨nilL, nilM⟩, ⟨rfl, rfl, rfl, rfl, trivial⟩, rfl⟩
                    · (try rw [h11]); (try simp only [decide_eq_true_eq, decide_eq_false_iff_not, Bool.not_eq_true', Bool.not_eq_false', Int.not_lt, Int.not_le, Bool.not_true, Bool.not_false, Int.toNat_natCast, tn1, tn2, tnn, bne_iff_ne, beq_iff_eq, beq_eq_false_iff_ne, ne_eq, Decidable.not_not] at h11)
                      -- region 27 ref.go:624
                      refine AWp_regL ?_
                      refine st rfl rfl rfl (op_moveO rfl rfl) ?_
                      refine st rfl rfl rfl (op_moveO rfl rfl) ?_
                      refine st rfl rfl rfl (op_nilCheck rfl rfl rfl) ?_
                      refine st rfl rfl rfl (op_fieldAddrO (fo := 1) rfl Tryd.underlying93 rfl rfl Tryd.sizeOf3 (by decide) rfl trivial) ?_
                      refine st rfl rfl rfl (op_load1 rfl Tryd.isAgg3 (by first | exact ldv_set hp rfl | exact ldv_setA hp rfl | exact ldv_ownS rfl rfl | exact ldv_pp rfl)) ?_
                      refine st rfl rfl rfl (op_callF rfl rfl rfl Tryd.func53 rfl rfl (callSA hp (fail_r s t p _ (get_setA hp) (t.a : Int) 1))) ?_
                      refine AOps_nil ?_
                      have hone : rone (rval n s) s t = (vz, rfail t t.a 1) := by unfold rone; rw [if_neg (by omega), if_neg (by omega), if_neg (by omega), if_neg (by omega), if_neg (by omega), if_neg (by omega), if_neg (by omega)]
                      simp only [hone]
                      exact ⟨(.nils, .nils, _), ⟨nilL, nilM⟩, ⟨rfl, rfl, rfl, rfl, trivial⟩, rfl⟩
                  · rw [h10]; (try simp only [decide_eq_true_eq, decide_eq_false_iff_not, Bool.not_eq_true', Bool.not_eq_false', Int.not_lt, Int.not_le, Bool.not_true, Bool.not_false, Int.toNat_natCast, tn1, tn2, tnn, bne_iff_ne, beq_iff_eq, beq_eq_false_iff_ne, ne_eq, Decidable.not_not] at h10)
                    refine stS rfl rfl rfl (.inl rfl) rfl rfl ?_
                    refine stS rfl rfl rfl (.inl rfl) rfl rfl ?_
                    refine stG rfl rfl rfl rfl rfl rfl (op_pickFO rfl rfl rfl) ?_
                    refine st rfl rfl rfl (op_pickFO rfl rfl rfl) ?_
                    refine AOps_nil ?_
                    refine AWp_condF rfl ?_
                    -- region 27 ref.go:624
                    refine AWp_regL ?_
                    refine st rfl rfl rfl (op_moveO rfl rfl) ?_
                    refine st rfl rfl rfl (op_moveO rfl rfl) ?_
                    refine st rfl rfl rfl (op_nilCheck rfl rfl rfl) ?_
                    refine st rfl rfl rfl (op_fieldAddrO (fo := 1) rfl Tryd.underlying93 rfl rfl Tryd.sizeOf3 (by decide) rfl trivial) ?_
                    refine st rfl rfl rfl (op_load1 rfl Tryd.isAgg3 (by first | exact ldv_set hp rfl | exact ldv_setA hp rfl | exact ldv_ownS rfl rfl | exact ldv_pp rfl)) ?_
                    refine st rfl rfl rfl (op_callF rfl rfl rfl Tryd.func53 rfl rfl (callSA hp (fail_r s t p _ (get_setA hp) (t.a : Int) 1))) ?_
                    refine AOps_nil ?_
                    have hone : rone (rval n s) s t = (vz, rfail t t.a 1) := by unfold rone; rw [if_neg (by omega), if_neg (by omega), if_neg (by omega), if_neg (by omega), if_neg (by omega), if_neg (by omega), if_neg (by omega)]
                    simp only [hone]
                    exact ⟨(.nils, .nils, _), ⟨nilL, nilM⟩, ⟨rfl, rfl, rfl, rfl, trivial⟩, rfl⟩
  · skip
    obtain ⟨L, M, w⟩ := z
    obtain ⟨hL, hM⟩ := hj
    simp only at hL hM ⊢
    refine AWp_seq ?_
    -- region 28 ref.go:626
    have hok := rone_ok hs (fun r h => rval_ok hs n r h) hb1.ok
    refine AWp_boxLeS 1 (bs' := [.int .i64 (rone (rval n s) s t).1.kind, .bool (rone (rval n s) s t).1.b, .bool (rone (rval n s) s t).1.n.neg, .str (rone (rval n s) s t).1.n.digits, .int .i64 (rone (rval n s) s t).1.n.exp, .str (rone (rval n s) s t).1.s, .sl false 8 (lcells (rone (rval n s) s t).1.l), .sl false 9 (mcells (rone (rval n s) s t).1.m)]) rfl ⟨AVle.refl _, AVle.refl _, AVle.refl _, AVle.refl _, AVle.refl _, AVle.refl _, hL, hM, trivial⟩ ?_
    refine AWp_regL ?_
    refine st rfl rfl rfl (op_moveO rfl rfl) ?_
    refine st rfl rfl rfl (op_callF rfl rfl rfl Tryd.func58 rfl rfl (callSA hp (blank_r s (rone (rval n s) s t).2 p _ (get_setA hp) hs hok.fwd.ok))) ?_
    refine AOps_nil ?_
    refine AWp_seq ?_
    -- region 29 ref.go:627
    refine AWp_regL ?_
    refine st rfl rfl rfl (op_loadK (cs := [_, _, _, _, _, _, _, _]) rfl Tryd.isAgg28 Tryd.sizeOf28 (by first | exact ldv_set hp rfl | exact ldv_setA hp rfl | exact ldv_ownS rfl rfl | exact ldv_pp rfl)) ?_
    refine stN rfl rfl ((by first | exact op_storeS (r := [_, _, _, _, _, _, _, _]) rfl Tryd.sizeOf28 rfl rfl rfl hp rfl (by decide) | exact op_storeSA (r := [_, _, _, _, _, _, _, _]) rfl Tryd.sizeOf28 rfl rfl rfl hp rfl (by decide) | exact op_storeOS (r := [_, _, _, _, _, _, _, _]) rfl Tryd.sizeOf28 rfl rfl rfl rfl rfl (by decide))) ?_
    refine AOps_nil ?_
    refine AWp_ret ?_
    (try simp only [blockQ, thenQ])
    rw [hres, vcells_eq]
    exact RQ_retS (rkvs_cons (rkv_ckS rfl rfl rfl) rfl) (x := rbox s (rblank s (rone (rval n s) s t).2)) hcl (by simp [AO.cells, AV.ltL, AV.lt]) (by simp [rks, AV.lt, AV.ltL]) ⟨rfl, rfl⟩

end Lg
set_option maxRecDepth 20000
set_option maxHeartbeats 4000000
namespace Lg
open Go Go.Proofs Go.RowKit
variable [GLay] 


theorem rpar_c (s : ByteArray) (hs : s.size ≤ 100000) (p : Nat) (σ : List AO) (hσ : σ[p]? = some (rbox s ⟨0, 0, 0, 0⟩)) : ACalls Tryd.prog 52 [.ptr p 0] σ (Ret (.agg (vcells (rpar s).1)) (σ.set p (rbox s (rpar s).2))) := value_r s hs (s.size + 2) ⟨0, 0, 0, 0⟩ p σ hσ ⟨Nat.zero_le _, fun _ => Nat.zero_le _, Int.le_refl _, Int.le_refl _⟩ (by dsimp only; omega)
theorem parse_c (s : ByteArray) (σ : List AO) (hs : s.size ≤ 100000) : ACalls Tryd.prog 34 [.str s] σ (Ret (.tup [.agg (vcells (rParse s).1), .int .i64 (rParse s).2.1, .int .i64 (rParse s).2.2]) σ) := by
  refine ACalls_bodyC Tryd.func34 rfl Tryd.ntmps34 (by rw [Tryd.results34]; exact (.ck Tryd.isAgg28 Tryd.sizeOf28 (.t (.t .nil)))) (Nat.le_of_ble_eq_true rfl) (fun hcl hal => ?_)
  refine AWp_seq ?_
  -- region 0 ref.go:631
  refine AWp_regL ?_
  refine st rfl rfl rfl (op_alloc0 (cs := [_, _, _, _, _, _, _, _]) rfl Tryd.zeroValue28 rfl) ?_
  refine st rfl rfl rfl (op_assignO rfl rfl) ?_
  refine st rfl rfl rfl (op_assignO rfl rfl) ?_
  refine AOps_nil ?_
  refine AWp_seq ?_
  refine AWp_seq ?_
  -- region 1 ref.go:632
  refine AWp_regL ?_
  refine st rfl rfl rfl (op_moveO rfl rfl) ?_
  refine st rfl rfl rfl (op_lenStr rfl rfl Tryd.underlying9 rfl) ?_
  refine st rfl rfl rfl (op_gtr rfl rfl rfl) ?_
  refine AOps_nil ?_
  refine AWp_cond rfl (fun h1 => ?_) (fun h1 => ?_)
  · (try rw [h1]); (try simp only [decide_eq_true_eq, decide_eq_false_iff_not, Bool.not_eq_true', Bool.not_eq_false', Int.not_lt, Int.not_le, Bool.not_true, Bool.not_false, Int.toNat_natCast, bne_iff_ne, beq_iff_eq, beq_eq_false_iff_ne, ne_eq, Decidable.not_not] at h1)
    refine AWp_seq ?_
    -- region 2 ref.go:633
    refine AWp_regL ?_
    refine st rfl rfl rfl (op_buildP (cs := [_, _, _, _, _, _, _, _]) [(0, 1), (1, 1), (2, 3), (5, 1), (6, 1), (7, 1)] rfl Tryd.underlying28 Tryd.zeroValue28 ⟨rfl, Tryd.sizeOf3, ⟨rfl, Tryd.sizeOf4, ⟨rfl, Tryd.sizeOf23, ⟨rfl, Tryd.sizeOf9, ⟨rfl, Tryd.sizeOf25, ⟨rfl, Tryd.sizeOf26, trivial⟩⟩⟩⟩⟩⟩ rfl rfl) ?_
    refine stN rfl rfl ((by first | exact op_storeO (r := [_, _, _, _, _, _, _, _]) rfl Tryd.sizeOf28 rfl rfl rfl rfl rfl (by decide) | exact op_storeP (r := [_, _, _, _, _, _, _, _]) rfl Tryd.sizeOf28 rfl rfl rfl (by assumption) rfl (by decide))) ?_
    refine st rfl rfl rfl (op_assignO rfl rfl) ?_
    refine st rfl rfl rfl (op_assignO rfl rfl) ?_
    refine AOps_nil ?_
    refine AWp_boxLeO 0 (bs' := [.int .i64 vz.kind, .bool vz.b, .bool vz.n.neg, .str vz.n.digits, .int .i64 vz.n.exp, .str vz.s, .sl false 8 (lcells vz.l), .sl false 9 (mcells vz.m)]) rfl ⟨AVle.refl _, AVle.refl _, AVle.refl _, AVle.refl _, AVle.refl _, AVle.refl _, nilL, nilM, trivial⟩ ?_
    refine AWp_ret ?_
    (try simp only [blockQ, thenQ])
    have hE : rParse s = (vz, 5, 20000) := by unfold rParse; rw [if_pos (by omega)]
    rw [hE, vcells_eq]; exact RQ_ret (rkvs_cons (rkv_ck rfl rfl rfl) (rkvs_cons (rkv_t rfl) (rkvs_cons (rkv_t rfl) rfl))) hcl (by simp [rks, AV.lt, AV.ltL, ofConst1, ncells]) ⟨rfl, rfl⟩
  · (try rw [h1]); (try simp only [decide_eq_true_eq, decide_eq_false_iff_not, Bool.not_eq_true', Bool.not_eq_false', Int.not_lt, Int.not_le, Bool.not_true, Bool.not_false, Int.toNat_natCast, bne_iff_ne, beq_iff_eq, beq_eq_false_iff_ne, ne_eq, Decidable.not_not] at h1)
    refine AWp_skip ?_
    refine AWp_seq ?_
    -- region 3 ref.go:635
    refine AWp_regL ?_
    refine st rfl rfl rfl (op_moveO rfl rfl) ?_
    refine st rfl rfl rfl (op_buildP (cs := [_, _, _, _, _]) [(0, 1), (1, 1), (2, 1), (3, 1), (4, 1)] rfl Tryd.underlying93 Tryd.zeroValue93 ⟨rfl, Tryd.sizeOf9, ⟨rfl, Tryd.sizeOf3, ⟨rfl, Tryd.sizeOf3, ⟨rfl, Tryd.sizeOf3, ⟨rfl, Tryd.sizeOf3, trivial⟩⟩⟩⟩⟩ rfl rfl) ?_
    refine st rfl rfl rfl (op_boxO (cs := [_, _, _, _, _]) 1 rfl rfl rfl rfl) ?_
    refine st rfl rfl rfl (op_assignO rfl rfl) ?_
    refine AOps_nil ?_
    refine AWp_seq ?_
    -- region 4 ref.go:636
    refine AWp_regL ?_
    refine st rfl rfl rfl (op_moveO rfl rfl) ?_
    refine st rfl rfl rfl (op_callF rfl rfl rfl Tryd.func52 rfl rfl (callO 1 (rpar_c s hs (σ.length + 1) _ (by rw [get_ownT rfl]; rfl)))) ?_
    rw [vcells_eq (rpar s).1]
    refine st rfl rfl rfl (op_allocO (cs := [_, _, _, _, _, _, _, _]) 2 rfl rfl Tryd.zeroValue28 rfl) ?_
    refine stN rfl rfl ((by first | exact op_storeO (r := [_, _, _, _, _, _, _, _]) rfl Tryd.sizeOf28 rfl rfl rfl rfl rfl (by decide) | exact op_storeP (r := [_, _, _, _, _, _, _, _]) rfl Tryd.sizeOf28 rfl rfl rfl (by assumption) rfl (by decide))) ?_
    refine AOps_nil ?_
    refine AWp_join (ι := Unit) (fun b => True) (fun b => ⟨[], [(0, .str s), (2, .ptr (σ.length + 0) 0), (5, .ptr (σ.length + 1) 0), (6, .ptr (σ.length + 2) 0)]⟩) (fun b => σ ++ [.box [.int .i64 0, .bool false, .bool false, .str e0, .int .i64 0, .str e0, .nils, .nils], rbox s (rparE s), .box [.int .i64 (rpar s).1.kind, .bool (rpar s).1.b, .bool (rpar s).1.n.neg, .str (rpar s).1.n.digits, .int .i64 (rpar s).1.n.exp, .str (rpar s).1.s, .sl false 8 (lcells (rpar s).1.l), .sl false 9 (mcells (rpar s).1.m)]]) ?_ (fun b hj => ?_)
    · skip
      refine AWp_seq ?_
      -- region 5 ref.go:637
      refine AWp_regL ?_
      refine st rfl rfl rfl (op_moveO rfl rfl) ?_
      refine st rfl rfl rfl (op_nilCheck rfl rfl rfl) ?_
      refine st rfl rfl rfl (op_fieldAddrO (fo := 3) rfl Tryd.underlying93 rfl rfl Tryd.sizeOf3 (by decide) rfl trivial) ?_
      refine st rfl rfl rfl (op_load1 rfl Tryd.isAgg3 (by first | exact ldv_own rfl rfl | exact ldv_pp rfl | exact ldv_old (by assumption) rfl | exact ldv_ptr (by assumption) rfl)) ?_
      refine st rfl rfl rfl (op_eql rfl rfl rfl) ?_
      refine st rfl rfl rfl (op_moveO rfl rfl) ?_
      refine AOps_split 21 rfl (fun h2 => ?_) (fun h2 => ?_)
      · rw [h2]; (try simp only [decide_eq_true_eq, decide_eq_false_iff_not, Bool.not_eq_true', Bool.not_eq_false', Int.not_lt, Int.not_le, Bool.not_true, Bool.not_false, Int.toNat_natCast, bne_iff_ne, beq_iff_eq, beq_eq_false_iff_ne, ne_eq, Decidable.not_not] at h2)
        refine stG rfl rfl rfl rfl rfl rfl (op_moveO rfl rfl) ?_
        refine stG rfl rfl rfl rfl rfl rfl (op_nilCheck rfl rfl rfl) ?_
        refine stG rfl rfl rfl rfl rfl rfl (op_fieldAddrO (fo := 1) rfl Tryd.underlying93 rfl rfl Tryd.sizeOf3 (by decide) rfl trivial) ?_
        refine stG rfl rfl rfl rfl rfl rfl (op_load1 rfl Tryd.isAgg3 (by first | exact ldv_own rfl rfl | exact ldv_pp rfl | exact ldv_old (by assumption) rfl | exact ldv_ptr (by assumption) rfl)) ?_
        refine stG rfl rfl rfl rfl rfl rfl (op_moveO rfl rfl) ?_
        refine stG rfl rfl rfl rfl rfl rfl (op_lenStr rfl rfl Tryd.underlying9 rfl) ?_
        refine stG rfl rfl rfl rfl rfl rfl (op_lss rfl rfl rfl) ?_
        refine st rfl rfl rfl (op_pickTO rfl rfl rfl) ?_
        refine AOps_nil ?_
        refine AWp_cond rfl (fun h3 => ?_) (fun h3 => ?_)
        · (try rw [h3]); (try simp only [decide_eq_true_eq, decide_eq_false_iff_not, Bool.not_eq_true', Bool.not_eq_false', Int.not_lt, Int.not_le, Bool.not_true, Bool.not_false, Int.toNat_natCast, bne_iff_ne, beq_iff_eq, beq_eq_false_iff_ne, ne_eq, Decidable.not_not] at h3)
          -- region 6 ref.go:638
          refine AWp_regL ?_
          refine st rfl rfl rfl (op_moveO rfl rfl) ?_
          refine st rfl rfl rfl (op_moveO rfl rfl) ?_
          refine st rfl rfl rfl (op_nilCheck rfl rfl rfl) ?_
          refine st rfl rfl rfl (op_fieldAddrO (fo := 1) rfl Tryd.underlying93 rfl rfl Tryd.sizeOf3 (by decide) rfl trivial) ?_
          refine st rfl rfl rfl (op_load1 rfl Tryd.isAgg3 (by first | exact ldv_own rfl rfl | exact ldv_pp rfl | exact ldv_old (by assumption) rfl | exact ldv_ptr (by assumption) rfl)) ?_
          refine st rfl rfl rfl (op_callF rfl rfl rfl Tryd.func53 rfl rfl (callO 1 (fail_r s (rpar s).2 (σ.length + 1) _ (by rw [get_ownT rfl]; rfl) ((rpar s).2.a : Int) 1))) ?_
          refine AOps_nil ?_
          refine ⟨(), trivial, ⟨rfl, rfl, rfl, rfl, rfl, trivial⟩, ?_⟩
          unfold rparE; first | (rw [if_pos ⟨by omega, by omega⟩]; rfl) | (rw [if_neg (by omega)]; rfl)
        · (try rw [h3]); (try simp only [decide_eq_true_eq, decide_eq_false_iff_not, Bool.not_eq_true', Bool.not_eq_false', Int.not_lt, Int.not_le, Bool.not_true, Bool.not_false, Int.toNat_natCast, bne_iff_ne, beq_iff_eq, beq_eq_false_iff_ne, ne_eq, Decidable.not_not] at h3)
          refine AWp_skip ?_
          refine ⟨(), trivial, ⟨rfl, rfl, rfl, rfl, rfl, trivial⟩, ?_⟩
          unfold rparE; first | (rw [if_pos ⟨by omega, by omega⟩]; rfl) | (rw [if_neg (by omega)]; rfl)
      · rw [h2]; (try simp only [decide_eq_true_eq, decide_eq_false_iff_not, Bool.not_eq_true', Bool.not_eq_false', Int.not_lt, Int.not_le, Bool.not_true, Bool.not_false, Int.toNat_natCast, bne_iff_ne, beq_iff_eq, beq_eq_false_iff_ne, ne_eq, Decidable.not_not] at h2)
        refine stS rfl rfl rfl (.inl rfl) rfl rfl ?_
        refine stS rfl rfl rfl (.inl rfl) rfl rfl ?_
        refine stS rfl rfl rfl (.inl rfl) rfl rfl ?_
        refine stS rfl rfl rfl (.inl rfl) rfl rfl ?_
        refine stS rfl rfl rfl (.inl rfl) rfl rfl ?_
        refine stS rfl rfl rfl (.inl rfl) rfl rfl ?_
        refine stS rfl rfl rfl (.inl rfl) rfl rfl ?_
        refine st rfl rfl rfl (op_pickFO rfl rfl rfl) ?_
        refine AOps_nil ?_
        refine AWp_condF rfl ?_
        refine AWp_skip ?_
        refine ⟨(), trivial, ⟨rfl, rfl, rfl, rfl, rfl, trivial⟩, ?_⟩
        unfold rparE; first | (rw [if_pos ⟨by omega, by omega⟩]; rfl) | (rw [if_neg (by omega)]; rfl)
    · skip
      refine AWp_seq ?_
      refine AWp_seq ?_
      -- region 7 ref.go:640
      refine AWp_regL ?_
      refine st rfl rfl rfl (op_moveO rfl rfl) ?_
      refine st rfl rfl rfl (op_nilCheck rfl rfl rfl) ?_
      refine st rfl rfl rfl (op_fieldAddrO (fo := 3) rfl Tryd.underlying93 rfl rfl Tryd.sizeOf3 (by decide) rfl trivial) ?_
      refine st rfl rfl rfl (op_load1 rfl Tryd.isAgg3 (by first | exact ldv_own rfl rfl | exact ldv_pp rfl | exact ldv_old (by assumption) rfl | exact ldv_ptr (by assumption) rfl)) ?_
      refine st rfl rfl rfl (op_neq rfl rfl rfl) ?_
      refine AOps_nil ?_
      refine AWp_cond rfl (fun h4 => ?_) (fun h4 => ?_)
      · (try rw [h4]); (try simp only [decide_eq_true_eq, decide_eq_false_iff_not, Bool.not_eq_true', Bool.not_eq_false', Int.not_lt, Int.not_le, Bool.not_true, Bool.not_false, Int.toNat_natCast, bne_iff_ne, beq_iff_eq, beq_eq_false_iff_ne, ne_eq, Decidable.not_not] at h4)
        refine AWp_seq ?_
        -- region 8 ref.go:641 DRAWN
        refine AWp_drawL #[0, 0, 2, 6, 14, 0, 32, 96, 224, 1, 543, 2047] Tryd.mixed (by decide +kernel) (by decide +kernel) ?_
        refine rA rfl rfl rfl rfl (fun _ => op_buildP (cs := [_, _, _, _, _, _, _, _]) [(0, 1), (1, 1), (2, 3), (5, 1), (6, 1), (7, 1)] rfl Tryd.underlying28 Tryd.zeroValue28 ⟨rfl, Tryd.sizeOf3, ⟨rfl, Tryd.sizeOf4, ⟨rfl, Tryd.sizeOf23, ⟨rfl, Tryd.sizeOf9, ⟨rfl, Tryd.sizeOf25, ⟨rfl, Tryd.sizeOf26, trivial⟩⟩⟩⟩⟩⟩ rfl rfl) ?_
        refine rA rfl rfl rfl rfl (fun _ => op_moveO rfl rfl) ?_
        refine rA rfl rfl rfl rfl (fun _ => op_nilCheck rfl rfl rfl) ?_
        refine rA rfl rfl rfl rfl (fun _ => op_fieldAddrO (fo := 3) rfl Tryd.underlying93 rfl rfl Tryd.sizeOf3 (by decide) rfl trivial) ?_
        refine rP rfl rfl rfl rfl (op_load1 rfl Tryd.isAgg3 (by first | exact ldv_own rfl rfl | exact ldv_pp rfl | exact ldv_old (by assumption) rfl | exact ldv_ptr (by assumption) rfl)) (trivial) ?_
        refine rA rfl rfl rfl rfl (fun _ => op_moveO rfl rfl) ?_
        refine rA rfl rfl rfl rfl (fun _ => op_nilCheck rfl rfl rfl) ?_
        refine rA rfl rfl rfl rfl (fun _ => op_fieldAddrO (fo := 4) rfl Tryd.underlying93 rfl rfl Tryd.sizeOf3 (by decide) rfl trivial) ?_
        refine rP rfl rfl rfl rfl (op_load1 rfl Tryd.isAgg3 (by first | exact ldv_own rfl rfl | exact ldv_pp rfl | exact ldv_old (by assumption) rfl | exact ldv_ptr (by assumption) rfl)) (trivial) ?_
        refine rEN rfl rfl rfl ((by first | exact op_storeO (r := [_, _, _, _, _, _, _, _]) rfl Tryd.sizeOf28 rfl rfl rfl rfl rfl (by decide) | exact op_storeP (r := [_, _, _, _, _, _, _, _]) rfl Tryd.sizeOf28 rfl rfl rfl (by assumption) rfl (by decide))) (⟨.inr (op_load1 rfl Tryd.isAgg3 (ldv_own rfl rfl)), ⟨.inr (op_load1 rfl Tryd.isAgg3 (ldv_own rfl rfl)), trivial⟩⟩) (trivial) ?_
        refine rA rfl rfl rfl rfl (fun _ => op_assignO rfl rfl) ?_
        refine rA rfl rfl rfl rfl (fun _ => op_assignO rfl rfl) ?_
        refine RP.nil rfl ?_
        refine AWp_boxLeO 0 (bs' := [.int .i64 vz.kind, .bool vz.b, .bool vz.n.neg, .str vz.n.digits, .int .i64 vz.n.exp, .str vz.s, .sl false 8 (lcells vz.l), .sl false 9 (mcells vz.m)]) rfl ⟨AVle.refl _, AVle.refl _, AVle.refl _, AVle.refl _, AVle.refl _, AVle.refl _, nilL, nilM, trivial⟩ ?_
        refine AWp_ret ?_
        (try simp only [blockQ, thenQ])
        have hE : rParse s = (vz, (rparE s).bad, (rparE s).spot) := by unfold rParse; rw [if_neg (by omega), if_neg (by assumption)]
        rw [hE, vcells_eq]; exact RQ_ret (rkvs_cons (rkv_ck rfl rfl rfl) (rkvs_cons (rkv_t rfl) (rkvs_cons (rkv_t rfl) rfl))) hcl (by simp [rks, AV.lt, AV.ltL, ofConst1, ncells]) ⟨rfl, rfl⟩
      · (try rw [h4]); (try simp only [decide_eq_true_eq, decide_eq_false_iff_not, Bool.not_eq_true', Bool.not_eq_false', Int.not_lt, Int.not_le, Bool.not_true, Bool.not_false, Int.toNat_natCast, bne_iff_ne, beq_iff_eq, beq_eq_false_iff_ne, ne_eq, Decidable.not_not] at h4)
        refine AWp_skip ?_
        refine AWp_seq ?_
        -- region 9 ref.go:643
        refine AWp_regL ?_
        refine st rfl rfl rfl (op_loadK (cs := [_, _, _, _, _, _, _, _]) rfl Tryd.isAgg28 Tryd.sizeOf28 (by first | exact ldv_own rfl rfl | exact ldv_pp rfl | exact ldv_old (by assumption) rfl | exact ldv_ptr (by assumption) rfl)) ?_
        refine stN rfl rfl ((by first | exact op_storeO (r := [_, _, _, _, _, _, _, _]) rfl Tryd.sizeOf28 rfl rfl rfl rfl rfl (by decide) | exact op_storeP (r := [_, _, _, _, _, _, _, _]) rfl Tryd.sizeOf28 rfl rfl rfl (by assumption) rfl (by decide))) ?_
        refine st rfl rfl rfl (op_assignO rfl rfl) ?_
        refine st rfl rfl rfl (op_assignO rfl rfl) ?_
        refine AOps_nil ?_
        refine AWp_ret ?_
        (try simp only [blockQ, thenQ])
        have hE : rParse s = ((rpar s).1, 0, 0) := by unfold rParse; rw [if_neg (by omega), if_pos (by assumption)]
        rw [hE, vcells_eq]; exact RQ_ret (rkvs_cons (rkv_ck rfl rfl rfl) (rkvs_cons (rkv_t rfl) (rkvs_cons (rkv_t rfl) rfl))) hcl (by simp [rks, AV.lt, AV.ltL, ofConst1, ncells]) ⟨rfl, rfl⟩

theorem value_c (s : ByteArray) (σ : List AO) : ACalls Tryd.prog 11 [.str s] σ (Ret (.tup [.agg (vcells (rValue s).1), .int .i64 (rValue s).2]) σ) := by
  refine ACalls_bodyC Tryd.func11 rfl Tryd.ntmps11 (by rw [Tryd.results11]; exact (.ck Tryd.isAgg28 Tryd.sizeOf28 (.t .nil))) (Nat.le_of_ble_eq_true rfl) (fun hcl hal => ?_)
  refine AWp_seq ?_
  -- region 0 help.go:94
  refine AWp_regL ?_
  refine st rfl rfl rfl (op_alloc0 (cs := [_, _, _, _, _, _, _, _]) rfl Tryd.zeroValue28 rfl) ?_
  refine st rfl rfl rfl (op_assignO rfl rfl) ?_
  refine AOps_nil ?_
  refine AWp_seq ?_
  refine AWp_seq ?_
  -- region 1 help.go:95
  refine AWp_regL ?_
  refine st rfl rfl rfl (op_moveO rfl rfl) ?_
  refine st rfl rfl rfl (op_lenStr rfl rfl Tryd.underlying9 rfl) ?_
  refine st rfl rfl rfl (op_gtr rfl rfl rfl) ?_
  refine AOps_nil ?_
  refine AWp_cond rfl (fun h1 => ?_) (fun h1 => ?_)
  · (try rw [h1]); (try simp only [decide_eq_true_eq, decide_eq_false_iff_not, Bool.not_eq_true', Bool.not_eq_false', Int.not_lt, Int.not_le, Bool.not_true, Bool.not_false, Int.toNat_natCast, bne_iff_ne, beq_iff_eq, beq_eq_false_iff_ne, ne_eq, Decidable.not_not] at h1)
    refine AWp_seq ?_
    -- region 2 help.go:96
    refine AWp_regL ?_
    refine st rfl rfl rfl (op_buildP (cs := [_, _, _, _, _, _, _, _]) [(0, 1), (1, 1), (2, 3), (5, 1), (6, 1), (7, 1)] rfl Tryd.underlying28 Tryd.zeroValue28 ⟨rfl, Tryd.sizeOf3, ⟨rfl, Tryd.sizeOf4, ⟨rfl, Tryd.sizeOf23, ⟨rfl, Tryd.sizeOf9, ⟨rfl, Tryd.sizeOf25, ⟨rfl, Tryd.sizeOf26, trivial⟩⟩⟩⟩⟩⟩ rfl rfl) ?_
    refine stN rfl rfl ((by first | exact op_storeO (r := [_, _, _, _, _, _, _, _]) rfl Tryd.sizeOf28 rfl rfl rfl rfl rfl (by decide) | exact op_storeP (r := [_, _, _, _, _, _, _, _]) rfl Tryd.sizeOf28 rfl rfl rfl (by assumption) rfl (by decide))) ?_
    refine st rfl rfl rfl (op_assignO rfl rfl) ?_
    refine AOps_nil ?_
    refine AWp_boxLeO 0 (bs' := [.int .i64 vz.kind, .bool vz.b, .bool vz.n.neg, .str vz.n.digits, .int .i64 vz.n.exp, .str vz.s, .sl false 8 (lcells vz.l), .sl false 9 (mcells vz.m)]) rfl ⟨AVle.refl _, AVle.refl _, AVle.refl _, AVle.refl _, AVle.refl _, AVle.refl _, nilL, nilM, trivial⟩ ?_
    refine AWp_ret ?_
    (try simp only [blockQ, thenQ])
    have hE : rValue s = (vz, 0) := by unfold rValue; rw [if_pos (by omega)]
    rw [hE, vcells_eq]; exact RQ_ret (rkvs_cons (rkv_ck rfl rfl rfl) (rkvs_cons (rkv_t rfl) rfl)) hcl (by simp [rks, AV.lt, AV.ltL, ofConst1, ncells]) ⟨rfl, rfl⟩
  · (try rw [h1]); (try simp only [decide_eq_true_eq, decide_eq_false_iff_not, Bool.not_eq_true', Bool.not_eq_false', Int.not_lt, Int.not_le, Bool.not_true, Bool.not_false, Int.toNat_natCast, bne_iff_ne, beq_iff_eq, beq_eq_false_iff_ne, ne_eq, Decidable.not_not] at h1)
    refine AWp_skip ?_
    refine AWp_seq ?_
    -- region 3 help.go:98
    refine AWp_regL ?_
    refine st rfl rfl rfl (op_moveO rfl rfl) ?_
    refine st rfl rfl rfl (op_callF rfl rfl rfl Tryd.func34 rfl rfl (parse_c s _ (by omega))) ?_
    rw [vcells_eq (rParse s).1]
    refine st rfl rfl rfl (op_moveO rfl rfl) ?_
    refine st rfl rfl rfl (op_extract rfl rfl rfl) ?_
    refine st rfl rfl rfl (op_extract rfl rfl rfl) ?_
    refine st rfl rfl rfl (op_extract rfl rfl rfl) ?_
    refine st rfl rfl rfl (op_allocO (cs := [_, _, _, _, _, _, _, _]) 1 rfl rfl Tryd.zeroValue28 rfl) ?_
    refine stN rfl rfl ((by first | exact op_storeO (r := [_, _, _, _, _, _, _, _]) rfl Tryd.sizeOf28 rfl rfl rfl rfl rfl (by decide) | exact op_storeP (r := [_, _, _, _, _, _, _, _]) rfl Tryd.sizeOf28 rfl rfl rfl (by assumption) rfl (by decide))) ?_
    refine st rfl rfl rfl (op_assignO rfl rfl) ?_
    refine st rfl rfl rfl (op_assignO rfl rfl) ?_
    refine AOps_nil ?_
    refine AWp_seq ?_
    refine AWp_seq ?_
    -- region 4 help.go:99
    refine AWp_regL ?_
    refine st rfl rfl rfl (op_moveO rfl rfl) ?_
    refine st rfl rfl rfl (op_neq rfl rfl rfl) ?_
    refine AOps_nil ?_
    refine AWp_cond rfl (fun h2 => ?_) (fun h2 => ?_)
    · (try rw [h2]); (try simp only [decide_eq_true_eq, decide_eq_false_iff_not, Bool.not_eq_true', Bool.not_eq_false', Int.not_lt, Int.not_le, Bool.not_true, Bool.not_false, Int.toNat_natCast, bne_iff_ne, beq_iff_eq, beq_eq_false_iff_ne, ne_eq, Decidable.not_not] at h2)
      refine AWp_seq ?_
      -- region 5 help.go:100
      refine AWp_regL ?_
      refine st rfl rfl rfl (op_buildP (cs := [_, _, _, _, _, _, _, _]) [(0, 1), (1, 1), (2, 3), (5, 1), (6, 1), (7, 1)] rfl Tryd.underlying28 Tryd.zeroValue28 ⟨rfl, Tryd.sizeOf3, ⟨rfl, Tryd.sizeOf4, ⟨rfl, Tryd.sizeOf23, ⟨rfl, Tryd.sizeOf9, ⟨rfl, Tryd.sizeOf25, ⟨rfl, Tryd.sizeOf26, trivial⟩⟩⟩⟩⟩⟩ rfl rfl) ?_
      refine stN rfl rfl ((by first | exact op_storeO (r := [_, _, _, _, _, _, _, _]) rfl Tryd.sizeOf28 rfl rfl rfl rfl rfl (by decide) | exact op_storeP (r := [_, _, _, _, _, _, _, _]) rfl Tryd.sizeOf28 rfl rfl rfl (by assumption) rfl (by decide))) ?_
      refine st rfl rfl rfl (op_assignO rfl rfl) ?_
      refine AOps_nil ?_
      refine AWp_boxLeO 0 (bs' := [.int .i64 vz.kind, .bool vz.b, .bool vz.n.neg, .str vz.n.digits, .int .i64 vz.n.exp, .str vz.s, .sl false 8 (lcells vz.l), .sl false 9 (mcells vz.m)]) rfl ⟨AVle.refl _, AVle.refl _, AVle.refl _, AVle.refl _, AVle.refl _, AVle.refl _, nilL, nilM, trivial⟩ ?_
      refine AWp_ret ?_
      (try simp only [blockQ, thenQ])
      have hE : rValue s = (vz, 0) := by unfold rValue; rw [if_neg (by omega), if_neg (by assumption)]
      rw [hE, vcells_eq]; exact RQ_ret (rkvs_cons (rkv_ck rfl rfl rfl) (rkvs_cons (rkv_t rfl) rfl)) hcl (by simp [rks, AV.lt, AV.ltL, ofConst1, ncells]) ⟨rfl, rfl⟩
    · (try rw [h2]); (try simp only [decide_eq_true_eq, decide_eq_false_iff_not, Bool.not_eq_true', Bool.not_eq_false', Int.not_lt, Int.not_le, Bool.not_true, Bool.not_false, Int.toNat_natCast, bne_iff_ne, beq_iff_eq, beq_eq_false_iff_ne, ne_eq, Decidable.not_not] at h2)
      refine AWp_skip ?_
      refine AWp_seq ?_
      -- region 6 help.go:102
      refine AWp_regL ?_
      refine st rfl rfl rfl (op_loadK (cs := [_, _, _, _, _, _, _, _]) rfl Tryd.isAgg28 Tryd.sizeOf28 (by first | exact ldv_own rfl rfl | exact ldv_pp rfl | exact ldv_old (by assumption) rfl | exact ldv_ptr (by assumption) rfl)) ?_
      refine stN rfl rfl ((by first | exact op_storeO (r := [_, _, _, _, _, _, _, _]) rfl Tryd.sizeOf28 rfl rfl rfl rfl rfl (by decide) | exact op_storeP (r := [_, _, _, _, _, _, _, _]) rfl Tryd.sizeOf28 rfl rfl rfl (by assumption) rfl (by decide))) ?_
      refine st rfl rfl rfl (op_assignO rfl rfl) ?_
      refine AOps_nil ?_
      refine AWp_ret ?_
      (try simp only [blockQ, thenQ])
      have hE : rValue s = ((rParse s).1, 1) := by unfold rValue; rw [if_neg (by omega), if_pos (by assumption)]
      rw [hE, vcells_eq]; exact RQ_ret (rkvs_cons (rkv_ck rfl rfl rfl) (rkvs_cons (rkv_t rfl) rfl)) hcl (by simp [rks, AV.lt, AV.ltL, ofConst1, ncells]) ⟨rfl, rfl⟩

end Lg
set_option maxRecDepth 20000
set_option maxHeartbeats 4000000
namespace Lg
open Go Go.Proofs Go.RowKit
variable [GLay] [U8]


theorem may4_c (σ : List AO) : ACalls Tryd.prog 9 [.agg (vcells v4)] σ (Ret (.bool true) σ) := by
  have h := may_any 1 v4 σ (by rw [v4, jsize_nil]; decide) (jb_nil _ _ _ _ (by simp) (by simp)); rwa [pb_t may4] at h
theorem may6_c (σ : List AO) : ACalls Tryd.prog 9 [.agg (vcells v6)] σ (Ret (.bool false) σ) := by
  have h := may_any 1 v6 σ (by rw [v6, jsize_nil]; decide) (jb_nil _ _ _ _ (by simp) (by simp)); rwa [pb_f may6] at h
theorem size4_c (σ : List AO) : ACalls Tryd.prog 16 [.agg (vcells v4)] σ (Ret (.int .i64 1) σ) := by
  have h := size_any 1 v4 σ (by rw [v4, jsize_nil]; decide) (by decide); rwa [show jsize v4 = 1 from jsize_nil _ _ _ _] at h
theorem depth4_c (σ : List AO) : ACalls Tryd.prog 18 [.agg (vcells v4)] σ (Ret (.int .i64 1) σ) := by
  have h := depth_any 1 v4 σ (by rw [v4, jsize_nil]; decide) (by decide); rwa [jdepth4] at h
theorem same4_c (σ : List AO) : ACalls Tryd.prog 15 [.agg (vcells v4), .agg (vcells v4)] σ (Ret (.bool true) σ) := by
  have h := same_any 1 v4 v4 σ (by rw [v4, jsize_nil]; decide) (jb_nil _ _ _ _ (by simp) (by simp)) (jb_nil _ _ _ _ (by simp) (by simp)); rwa [pb_t rfl] at h
theorem up3_c (σ : List AO) : ACalls Tryd.prog 8 [] σ (Ret (.bool true) σ) := by
  refine ACalls_body Tryd.func8 rfl Tryd.ntmps8 (res1 Tryd.results8) (Nat.le_of_ble_eq_true rfl) (fun hcl hal => ?_)
  refine AWp_seq ?_
  -- region 0 law.go:12
  refine AWp_regL ?_
  refine st rfl rfl rfl (op_assignO rfl rfl) ?_
  refine AOps_nil ?_
  refine AWp_seq ?_
  -- region 1 law.go:13
  refine AWp_regL ?_
  refine st rfl rfl rfl (op_buildP (cs := [_, _, _, _, _, _, _, _]) [(0, 1), (1, 1), (2, 3), (5, 1), (6, 1), (7, 1)] rfl Tryd.underlying28 Tryd.zeroValue28 ⟨rfl, Tryd.sizeOf3, ⟨rfl, Tryd.sizeOf4, ⟨rfl, Tryd.sizeOf23, ⟨rfl, Tryd.sizeOf9, ⟨rfl, Tryd.sizeOf25, ⟨rfl, Tryd.sizeOf26, trivial⟩⟩⟩⟩⟩⟩ rfl rfl) ?_
  refine st rfl rfl rfl (op_alloc0 (cs := [_, _, _, _, _, _, _, _]) rfl Tryd.zeroValue28 rfl) ?_
  refine stN rfl rfl ((by first | exact op_storeO (r := [_, _, _, _, _, _, _, _]) rfl Tryd.sizeOf28 rfl rfl rfl rfl rfl (by decide) | exact op_storeP (r := [_, _, _, _, _, _, _, _]) rfl Tryd.sizeOf28 rfl rfl rfl (by assumption) rfl (by decide))) ?_
  refine AOps_nil ?_
  refine AWp_seq ?_
  -- region 2 law.go:14
  refine AWp_regL ?_
  refine st rfl rfl rfl (op_loadK (cs := [_, _, _, _, _, _, _, _]) rfl Tryd.isAgg28 Tryd.sizeOf28 (by first | exact ldv_own rfl rfl | exact ldv_pp rfl | exact ldv_old (by assumption) rfl | exact ldv_ptr (by assumption) rfl)) ?_
  refine st rfl rfl rfl (op_callF rfl rfl rfl Tryd.func9 rfl rfl (AC1c (vle8 nilL nilM) (may4_c _))) ?_
  refine st rfl rfl rfl (op_moveO rfl rfl) ?_
  refine stG rfl rfl rfl rfl rfl rfl (op_buildP (cs := [_, _, _, _, _, _, _, _]) [(0, 1), (1, 1), (2, 3), (5, 1), (6, 1), (7, 1)] rfl Tryd.underlying28 Tryd.zeroValue28 ⟨rfl, Tryd.sizeOf3, ⟨rfl, Tryd.sizeOf4, ⟨rfl, Tryd.sizeOf23, ⟨rfl, Tryd.sizeOf9, ⟨rfl, Tryd.sizeOf25, ⟨rfl, Tryd.sizeOf26, trivial⟩⟩⟩⟩⟩⟩ rfl rfl) ?_
  refine stG rfl rfl rfl rfl rfl rfl (op_callF rfl rfl rfl Tryd.func9 rfl rfl (AC1c (vle8 nilL nilM) (may6_c _))) ?_
  refine stG rfl rfl rfl rfl rfl rfl (op_not rfl rfl) ?_
  refine st rfl rfl rfl (op_pickTO rfl rfl rfl) ?_
  refine st rfl rfl rfl (op_moveO rfl rfl) ?_
  refine stG rfl rfl rfl rfl rfl rfl (op_loadK (cs := [_, _, _, _, _, _, _, _]) rfl Tryd.isAgg28 Tryd.sizeOf28 (by first | exact ldv_own rfl rfl | exact ldv_pp rfl | exact ldv_old (by assumption) rfl | exact ldv_ptr (by assumption) rfl)) ?_
  refine stG rfl rfl rfl rfl rfl rfl (op_callF rfl rfl rfl Tryd.func16 rfl rfl (AC1c (vle8 nilL nilM) (size4_c _))) ?_
  refine stG rfl rfl rfl rfl rfl rfl (op_eql rfl rfl rfl) ?_
  refine st rfl rfl rfl (op_pickTO rfl rfl rfl) ?_
  refine st rfl rfl rfl (op_moveO rfl rfl) ?_
  refine stG rfl rfl rfl rfl rfl rfl (op_loadK (cs := [_, _, _, _, _, _, _, _]) rfl Tryd.isAgg28 Tryd.sizeOf28 (by first | exact ldv_own rfl rfl | exact ldv_pp rfl | exact ldv_old (by assumption) rfl | exact ldv_ptr (by assumption) rfl)) ?_
  refine stG rfl rfl rfl rfl rfl rfl (op_callF rfl rfl rfl Tryd.func18 rfl rfl (AC1c (vle8 nilL nilM) (depth4_c _))) ?_
  refine stG rfl rfl rfl rfl rfl rfl (op_eql rfl rfl rfl) ?_
  refine st rfl rfl rfl (op_pickTO rfl rfl rfl) ?_
  refine st rfl rfl rfl (op_moveO rfl rfl) ?_
  refine stG rfl rfl rfl rfl rfl rfl (op_loadK (cs := [_, _, _, _, _, _, _, _]) rfl Tryd.isAgg28 Tryd.sizeOf28 (by first | exact ldv_own rfl rfl | exact ldv_pp rfl | exact ldv_old (by assumption) rfl | exact ldv_ptr (by assumption) rfl)) ?_
  refine stG rfl rfl rfl rfl rfl rfl (op_loadK (cs := [_, _, _, _, _, _, _, _]) rfl Tryd.isAgg28 Tryd.sizeOf28 (by first | exact ldv_own rfl rfl | exact ldv_pp rfl | exact ldv_old (by assumption) rfl | exact ldv_ptr (by assumption) rfl)) ?_
  refine stG rfl rfl rfl rfl rfl rfl (op_callF rfl rfl rfl Tryd.func15 rfl rfl (AC2c (vle8 nilL nilM) (vle8 nilL nilM) (same4_c _))) ?_
  refine st rfl rfl rfl (op_pickTO rfl rfl rfl) ?_
  refine st rfl rfl rfl (op_assignO rfl rfl) ?_
  refine AOps_nil ?_
  refine AWp_ret ?_
  (try simp only [blockQ, thenQ])
  exact ResQ_1 rfl hcl trivial ⟨rfl, rfl⟩

end Lg
set_option maxRecDepth 20000
set_option maxHeartbeats 4000000
namespace Lg
open Go Go.Proofs Go.RowKit
variable [GLay] 


theorem rsize_any (n : Nat) : ∀ (v : JV) (σ : List AO), jsize v ≤ n → n ≤ 1000000000 → ACalls Tryd.prog 17 [.agg (vcells v)] σ (Ret (.int .i64 (jsize v)) σ) := by
  induction n with
  | zero => intro v σ h; have := jsize_pos v; omega
  | succ n ih =>
  intro v σ hn hb
  have hvs := jsize_eq v
  have hl := lsize_nn v.l
  have hm := msize_nn v.m
  have hll := llen_le v.l
  have hml := mlen_le v.m
  have hlc := lcells_length v.l
  have hmc := mcells_length v.m
  refine ACalls_body Tryd.func17 rfl Tryd.ntmps17 (res1 Tryd.results17) (Nat.le_of_ble_eq_true rfl) (fun hcl hal => ?_)
  rw [vcells_eq v]
  refine AWp_seq ?_
  -- region 0 ref.go:445
  refine AWp_regL ?_
  refine st rfl rfl rfl (op_box0 (cs := [_, _, _, _, _, _, _, _]) rfl rfl rfl) ?_
  refine st rfl rfl rfl (op_assignO rfl rfl) ?_
  refine AOps_nil ?_
  refine AWp_seq ?_
  -- region 1 ref.go:446
  refine AWp_regL ?_
  refine st rfl rfl rfl (op_assignO rfl rfl) ?_
  refine AOps_nil ?_
  refine AWp_seq ?_
  refine AWp_seq ?_
  -- region 2 ref.go:447
  refine AWp_regL ?_
  refine st rfl rfl rfl (op_assignO rfl rfl) ?_
  refine AOps_nil ?_
  refine AWp_block ?_
  -- loop 0 LIVE 1:box 2:assign 3:assign 4:assign
  refine AWp_loop (ι := Nat) (fun i => i ≤ v.l.length) (fun i => ⟨[], [(1, .ptr (σ.length + 0) 0), (3, .int .i64 (1 + lsize (v.l.take i))), (4, .int .i64 (i : Int))]⟩) (fun i => σ ++ [_]) (fun i => v.l.length - i) (0) (Nat.zero_le _) ?_ rfl (fun i hi => ?_)
  · refine ⟨rfl, rfl, ?_, rfl, trivial⟩
    simp [lsize]; rfl
  have htl := lsize_take_le v.l i
  have htn := lsize_nn (v.l.take i)
  refine AWp_seq ?_
  refine AWp_seq ?_
  -- region 3 ref.go:447
  refine AWp_regL ?_
  refine st rfl rfl rfl (op_moveO rfl rfl) ?_
  refine st rfl rfl rfl (op_fieldAddrO (fo := 6) rfl Tryd.underlying28 rfl rfl Tryd.sizeOf25 (by decide) rfl trivial) ?_
  refine st rfl rfl rfl (op_load1 rfl Tryd.isAgg25 (by first | exact ldv_own rfl rfl | exact ldv_pp rfl | exact ldv_old (by assumption) rfl | exact ldv_ptr (by assumption) rfl)) ?_
  refine st rfl rfl rfl (op_lenS rfl rfl Tryd.underlying25 rfl rfl trivial) ?_
  refine st rfl rfl rfl (op_lss rfl rfl rfl) ?_
  refine AOps_nil ?_
  refine AWp_cond rfl (fun h1 => ?_) (fun h1 => ?_)
  · (try rw [h1]); (try simp only [decide_eq_true_eq, decide_eq_false_iff_not, Bool.not_eq_true', Bool.not_eq_false', Int.not_lt, Int.not_le, Bool.not_true, Bool.not_false, Int.toNat_natCast, bne_iff_ne, beq_iff_eq, beq_eq_false_iff_ne, ne_eq, Decidable.not_not] at h1)
    obtain ⟨x, hx⟩ : ∃ x, v.l[i]? = some x := ⟨_, List.getElem?_eq_getElem (show i < v.l.length by omega)⟩
    have hlm := lsize_mem hx
    have hxp := jsize_pos x
    have hts := lsize_take v.l i x hx
    have htl1 := lsize_take_le v.l (i + 1)
    refine AWp_skip ?_
    refine AWp_seq ?_
    refine AWp_block ?_
    -- region 5 ref.go:448
    refine AWp_regL ?_
    refine st rfl rfl rfl (op_moveO rfl rfl) ?_
    refine st rfl rfl rfl (op_fieldAddrO (fo := 6) rfl Tryd.underlying28 rfl rfl Tryd.sizeOf25 (by decide) rfl trivial) ?_
    refine st rfl rfl rfl (op_load1 rfl Tryd.isAgg25 (by first | exact ldv_own rfl rfl | exact ldv_pp rfl | exact ldv_old (by assumption) rfl | exact ldv_ptr (by assumption) rfl)) ?_
    refine st rfl rfl rfl (op_moveO rfl rfl) ?_
    refine st rfl rfl rfl ((by first | exact op_indexAddr rfl Tryd.underlying25 Tryd.sizeOf28 rfl rfl (by omega) (by first | exact lcells_get (by assumption) | exact mcells_get (by assumption) | exact brows_at (by omega) | assumption) | fail)) ?_
    rw [vcells_eq x]
    refine st rfl rfl rfl (op_loadK (cs := [_, _, _, _, _, _, _, _]) rfl Tryd.isAgg28 Tryd.sizeOf28 (by first | exact ldv_own rfl rfl | exact ldv_pp rfl | exact ldv_old (by assumption) rfl | exact ldv_ptr (by assumption) rfl)) ?_
    refine st rfl rfl rfl (op_callF rfl rfl rfl Tryd.func17 rfl rfl (AC1 (vcells_eq x) (ih x _ (by omega) (by omega)))) ?_
    refine st rfl rfl rfl (op_add64 rfl rfl rfl (by omega) (by omega)) ?_
    refine st rfl rfl rfl (op_assignO rfl rfl) ?_
    refine AOps_nil ?_
    -- region 4 ref.go:447
    refine AWp_regL ?_
    refine st rfl rfl rfl (op_moveO rfl rfl) ?_
    refine st rfl rfl rfl (op_add64 rfl rfl rfl (by omega) (by omega)) ?_
    refine st rfl rfl rfl (op_assignO rfl rfl) ?_
    refine AOps_nil ?_
    refine ⟨i + 1, σ.length + 1, by omega, by omega, by simp, ⟨rfl, rfl, ?_, rfl, trivial⟩, closed_own 1 hcl ?_, ?_, take_own 1⟩
    · rw [lsize_take v.l i x hx, ← Int.add_assoc]; rfl
    · simp [ownLt, AO.cells, AV.ltL, AV.lt]
    · simp [ltE, AV.lt]
  · (try rw [h1]); (try simp only [decide_eq_true_eq, decide_eq_false_iff_not, Bool.not_eq_true', Bool.not_eq_false', Int.not_lt, Int.not_le, Bool.not_true, Bool.not_false, Int.toNat_natCast, bne_iff_ne, beq_iff_eq, beq_eq_false_iff_ne, ne_eq, Decidable.not_not] at h1)
    have hie : v.l.take i = v.l := by rw [show i = v.l.length by omega]; exact List.take_length
    rw [hie]
    refine AWp_exit ?_
    refine AWp_seq ?_
    refine AWp_seq ?_
    -- region 6 ref.go:450
    refine AWp_regL ?_
    refine st rfl rfl rfl (op_assignO rfl rfl) ?_
    refine AOps_nil ?_
    refine AWp_block ?_
    -- loop 1 LIVE 1:box 2:assign 3:assign 5:assign
    refine AWp_loop (ι := Nat) (fun i => i ≤ v.m.length) (fun i => ⟨[], [(1, .ptr (σ.length + 0) 0), (3, .int .i64 (1 + lsize v.l + msize (v.m.take i))), (5, .int .i64 (i : Int))]⟩) (fun i => σ ++ [_]) (fun i => v.m.length - i) (0) (Nat.zero_le _) ?_ rfl (fun i hi => ?_)
    · refine ⟨rfl, rfl, ?_, rfl, trivial⟩
      simp [msize]; rfl
    have htl2 := msize_take_le v.m i
    have htn2 := msize_nn (v.m.take i)
    refine AWp_seq ?_
    refine AWp_seq ?_
    -- region 7 ref.go:450
    refine AWp_regL ?_
    refine st rfl rfl rfl (op_moveO rfl rfl) ?_
    refine st rfl rfl rfl (op_fieldAddrO (fo := 7) rfl Tryd.underlying28 rfl rfl Tryd.sizeOf26 (by decide) rfl trivial) ?_
    refine st rfl rfl rfl (op_load1 rfl Tryd.isAgg26 (by first | exact ldv_own rfl rfl | exact ldv_pp rfl | exact ldv_old (by assumption) rfl | exact ldv_ptr (by assumption) rfl)) ?_
    refine st rfl rfl rfl (op_lenS rfl rfl Tryd.underlying26 rfl rfl trivial) ?_
    refine st rfl rfl rfl (op_lss rfl rfl rfl) ?_
    refine AOps_nil ?_
    refine AWp_cond rfl (fun h2 => ?_) (fun h2 => ?_)
    · (try rw [h2]); (try simp only [decide_eq_true_eq, decide_eq_false_iff_not, Bool.not_eq_true', Bool.not_eq_false', Int.not_lt, Int.not_le, Bool.not_true, Bool.not_false, Int.toNat_natCast, bne_iff_ne, beq_iff_eq, beq_eq_false_iff_ne, ne_eq, Decidable.not_not] at h2)
      obtain ⟨q, hq⟩ : ∃ q, v.m[i]? = some q := ⟨_, List.getElem?_eq_getElem (show i < v.m.length by omega)⟩
      have hms := msize_mem hq
      have hqp := jsize_pos q.2
      have hts2 := msize_take v.m i q hq
      have htl3 := msize_take_le v.m (i + 1)
      refine AWp_skip ?_
      refine AWp_seq ?_
      refine AWp_block ?_
      -- region 9 ref.go:451
      refine AWp_regL ?_
      refine st rfl rfl rfl (op_moveO rfl rfl) ?_
      refine st rfl rfl rfl (op_fieldAddrO (fo := 7) rfl Tryd.underlying28 rfl rfl Tryd.sizeOf26 (by decide) rfl trivial) ?_
      refine st rfl rfl rfl (op_load1 rfl Tryd.isAgg26 (by first | exact ldv_own rfl rfl | exact ldv_pp rfl | exact ldv_old (by assumption) rfl | exact ldv_ptr (by assumption) rfl)) ?_
      refine st rfl rfl rfl (op_moveO rfl rfl) ?_
      refine st rfl rfl rfl ((by first | exact op_indexAddr rfl Tryd.underlying26 Tryd.sizeOf30 rfl rfl (by omega) (by first | exact lcells_get (by assumption) | exact mcells_get (by assumption) | exact brows_at (by omega) | assumption) | fail)) ?_
      refine st rfl rfl rfl (op_fieldAddrO (fo := 1) rfl Tryd.underlying30 rfl rfl Tryd.sizeOf28 (by decide) rfl trivial) ?_
      rw [vcells_eq q.2]
      refine st rfl rfl rfl (op_loadK (cs := [_, _, _, _, _, _, _, _]) rfl Tryd.isAgg28 Tryd.sizeOf28 (by first | exact ldv_own rfl rfl | exact ldv_pp rfl | exact ldv_old (by assumption) rfl | exact ldv_ptr (by assumption) rfl)) ?_
      refine st rfl rfl rfl (op_callF rfl rfl rfl Tryd.func17 rfl rfl (AC1 (vcells_eq q.2) (ih q.2 _ (by omega) (by omega)))) ?_
      refine st rfl rfl rfl (op_add64 rfl rfl rfl (by omega) (by omega)) ?_
      refine st rfl rfl rfl (op_assignO rfl rfl) ?_
      refine AOps_nil ?_
      -- region 8 ref.go:450
      refine AWp_regL ?_
      refine st rfl rfl rfl (op_moveO rfl rfl) ?_
      refine st rfl rfl rfl (op_add64 rfl rfl rfl (by omega) (by omega)) ?_
      refine st rfl rfl rfl (op_assignO rfl rfl) ?_
      refine AOps_nil ?_
      refine ⟨i + 1, σ.length + 1, by omega, by omega, by simp, ⟨rfl, rfl, ?_, rfl, trivial⟩, closed_own 1 hcl ?_, ?_, take_own 1⟩
      · rw [msize_take v.m i q hq, ← Int.add_assoc]; rfl
      · simp [ownLt, AO.cells, AV.ltL, AV.lt]
      · simp [ltE, AV.lt]
    · (try rw [h2]); (try simp only [decide_eq_true_eq, decide_eq_false_iff_not, Bool.not_eq_true', Bool.not_eq_false', Int.not_lt, Int.not_le, Bool.not_true, Bool.not_false, Int.toNat_natCast, bne_iff_ne, beq_iff_eq, beq_eq_false_iff_ne, ne_eq, Decidable.not_not] at h2)
      have hie2 : v.m.take i = v.m := by rw [show i = v.m.length by omega]; exact List.take_length
      rw [hie2]
      refine AWp_exit ?_
      refine AWp_seq ?_
      -- region 10 ref.go:453
      refine AWp_regL ?_
      refine st rfl rfl rfl (op_moveO rfl rfl) ?_
      refine st rfl rfl rfl (op_assignO rfl rfl) ?_
      refine AOps_nil ?_
      refine AWp_ret ?_
      (try simp only [blockQ, thenQ])
      refine ResQ_1 rfl hcl trivial (Ret_of ?_)
      congr 1; omega

theorem rdepth_any (n : Nat) : ∀ (v : JV) (σ : List AO), jsize v ≤ n → n ≤ 1000000000 → ACalls Tryd.prog 19 [.agg (vcells v)] σ (Ret (.int .i64 (jdepth v)) σ) := by
  induction n with
  | zero => intro v σ h; have := jsize_pos v; omega
  | succ n ih =>
  intro v σ hn hb
  have hvs := jsize_eq v
  have hl := lsize_nn v.l
  have hm := msize_nn v.m
  have hll := llen_le v.l
  have hml := mlen_le v.m
  have hlc := lcells_length v.l
  have hmc := mcells_length v.m
  have hd1 := ldep_nn v.l
  have hd2 := mdep_nn v.m
  have hde := jdepth_eq v
  refine ACalls_body Tryd.func19 rfl Tryd.ntmps19 (res1 Tryd.results19) (Nat.le_of_ble_eq_true rfl) (fun hcl hal => ?_)
  rw [vcells_eq v]
  refine AWp_seq ?_
  -- region 0 ref.go:457
  refine AWp_regL ?_
  refine st rfl rfl rfl (op_box0 (cs := [_, _, _, _, _, _, _, _]) rfl rfl rfl) ?_
  refine st rfl rfl rfl (op_assignO rfl rfl) ?_
  refine AOps_nil ?_
  refine AWp_seq ?_
  -- region 1 ref.go:458
  refine AWp_regL ?_
  refine st rfl rfl rfl (op_assignO rfl rfl) ?_
  refine AOps_nil ?_
  refine AWp_seq ?_
  refine AWp_seq ?_
  -- region 2 ref.go:459
  refine AWp_regL ?_
  refine st rfl rfl rfl (op_assignO rfl rfl) ?_
  refine AOps_nil ?_
  refine AWp_block ?_
  -- loop 0 LIVE 1:box 2:assign 3:assign 4:assign
  refine AWp_loop (ι := Nat) (fun i => i ≤ v.l.length) (fun i => ⟨[], [(1, .ptr (σ.length + 0) 0), (3, .int .i64 (ldep (v.l.take i))), (4, .int .i64 (i : Int))]⟩) (fun i => σ ++ [_]) (fun i => v.l.length - i) (0) (Nat.zero_le _) ?_ rfl (fun i hi => ?_)
  · refine ⟨rfl, rfl, ?_, rfl, trivial⟩
    simp [ldep]; rfl
  refine AWp_seq ?_
  refine AWp_seq ?_
  -- region 3 ref.go:459
  refine AWp_regL ?_
  refine st rfl rfl rfl (op_moveO rfl rfl) ?_
  refine st rfl rfl rfl (op_fieldAddrO (fo := 6) rfl Tryd.underlying28 rfl rfl Tryd.sizeOf25 (by decide) rfl trivial) ?_
  refine st rfl rfl rfl (op_load1 rfl Tryd.isAgg25 (by first | exact ldv_own rfl rfl | exact ldv_pp rfl | exact ldv_old (by assumption) rfl | exact ldv_ptr (by assumption) rfl)) ?_
  refine st rfl rfl rfl (op_lenS rfl rfl Tryd.underlying25 rfl rfl trivial) ?_
  refine st rfl rfl rfl (op_lss rfl rfl rfl) ?_
  refine AOps_nil ?_
  refine AWp_cond rfl (fun h1 => ?_) (fun h1 => ?_)
  · (try rw [h1]); (try simp only [decide_eq_true_eq, decide_eq_false_iff_not, Bool.not_eq_true', Bool.not_eq_false', Int.not_lt, Int.not_le, Bool.not_true, Bool.not_false, Int.toNat_natCast, bne_iff_ne, beq_iff_eq, beq_eq_false_iff_ne, ne_eq, Decidable.not_not] at h1)
    obtain ⟨x, hx⟩ : ∃ x, v.l[i]? = some x := ⟨_, List.getElem?_eq_getElem (show i < v.l.length by omega)⟩
    have hlm := lsize_mem hx
    have hxp := jsize_pos x
    have hts := lsize_take v.l i x hx
    have htl1 := lsize_take_le v.l (i + 1)
    refine AWp_skip ?_
    refine AWp_seq ?_
    refine AWp_block ?_
    -- region 5 ref.go:460
    refine AWp_regL ?_
    refine st rfl rfl rfl (op_moveO rfl rfl) ?_
    refine st rfl rfl rfl (op_fieldAddrO (fo := 6) rfl Tryd.underlying28 rfl rfl Tryd.sizeOf25 (by decide) rfl trivial) ?_
    refine st rfl rfl rfl (op_load1 rfl Tryd.isAgg25 (by first | exact ldv_own rfl rfl | exact ldv_pp rfl | exact ldv_old (by assumption) rfl | exact ldv_ptr (by assumption) rfl)) ?_
    refine st rfl rfl rfl (op_moveO rfl rfl) ?_
    refine st rfl rfl rfl ((by first | exact op_indexAddr rfl Tryd.underlying25 Tryd.sizeOf28 rfl rfl (by omega) (by first | exact lcells_get (by assumption) | exact mcells_get (by assumption) | exact brows_at (by omega) | assumption) | fail)) ?_
    rw [vcells_eq x]
    refine st rfl rfl rfl (op_loadK (cs := [_, _, _, _, _, _, _, _]) rfl Tryd.isAgg28 Tryd.sizeOf28 (by first | exact ldv_own rfl rfl | exact ldv_pp rfl | exact ldv_old (by assumption) rfl | exact ldv_ptr (by assumption) rfl)) ?_
    refine st rfl rfl rfl (op_callF rfl rfl rfl Tryd.func19 rfl rfl (AC1 (vcells_eq x) (ih x _ (by omega) (by omega)))) ?_
    refine st rfl rfl rfl (op_max2 rfl rfl rfl) ?_
    refine st rfl rfl rfl (op_assignO rfl rfl) ?_
    refine AOps_nil ?_
    -- region 4 ref.go:459
    refine AWp_regL ?_
    refine st rfl rfl rfl (op_moveO rfl rfl) ?_
    refine st rfl rfl rfl (op_add64 rfl rfl rfl (by omega) (by omega)) ?_
    refine st rfl rfl rfl (op_assignO rfl rfl) ?_
    refine AOps_nil ?_
    refine ⟨i + 1, σ.length + 1, by omega, by omega, by simp, ⟨rfl, rfl, ?_, rfl, trivial⟩, closed_own 1 hcl ?_, ?_, take_own 1⟩
    · rw [ldep_take v.l i x hx]; rfl
    · simp [ownLt, AO.cells, AV.ltL, AV.lt]
    · simp [ltE, AV.lt]
  · (try rw [h1]); (try simp only [decide_eq_true_eq, decide_eq_false_iff_not, Bool.not_eq_true', Bool.not_eq_false', Int.not_lt, Int.not_le, Bool.not_true, Bool.not_false, Int.toNat_natCast, bne_iff_ne, beq_iff_eq, beq_eq_false_iff_ne, ne_eq, Decidable.not_not] at h1)
    have hie : v.l.take i = v.l := by rw [show i = v.l.length by omega]; exact List.take_length
    rw [hie]
    refine AWp_exit ?_
    refine AWp_seq ?_
    refine AWp_seq ?_
    -- region 6 ref.go:462
    refine AWp_regL ?_
    refine st rfl rfl rfl (op_assignO rfl rfl) ?_
    refine AOps_nil ?_
    refine AWp_block ?_
    -- loop 1 LIVE 1:box 2:assign 3:assign 5:assign
    refine AWp_loop (ι := Nat) (fun i => i ≤ v.m.length) (fun i => ⟨[], [(1, .ptr (σ.length + 0) 0), (3, .int .i64 (max (ldep v.l) (mdep (v.m.take i)))), (5, .int .i64 (i : Int))]⟩) (fun i => σ ++ [_]) (fun i => v.m.length - i) (0) (Nat.zero_le _) ?_ rfl (fun i hi => ?_)
    · refine ⟨rfl, rfl, ?_, rfl, trivial⟩
      rw [show max (ldep v.l) (mdep (v.m.take 0)) = ldep v.l by simp only [List.take_zero, mdep]; omega]; rfl
    refine AWp_seq ?_
    refine AWp_seq ?_
    -- region 7 ref.go:462
    refine AWp_regL ?_
    refine st rfl rfl rfl (op_moveO rfl rfl) ?_
    refine st rfl rfl rfl (op_fieldAddrO (fo := 7) rfl Tryd.underlying28 rfl rfl Tryd.sizeOf26 (by decide) rfl trivial) ?_
    refine st rfl rfl rfl (op_load1 rfl Tryd.isAgg26 (by first | exact ldv_own rfl rfl | exact ldv_pp rfl | exact ldv_old (by assumption) rfl | exact ldv_ptr (by assumption) rfl)) ?_
    refine st rfl rfl rfl (op_lenS rfl rfl Tryd.underlying26 rfl rfl trivial) ?_
    refine st rfl rfl rfl (op_lss rfl rfl rfl) ?_
    refine AOps_nil ?_
    refine AWp_cond rfl (fun h2 => ?_) (fun h2 => ?_)
    · (try rw [h2]); (try simp only [decide_eq_true_eq, decide_eq_false_iff_not, Bool.not_eq_true', Bool.not_eq_false', Int.not_lt, Int.not_le, Bool.not_true, Bool.not_false, Int.toNat_natCast, bne_iff_ne, beq_iff_eq, beq_eq_false_iff_ne, ne_eq, Decidable.not_not] at h2)
      obtain ⟨q, hq⟩ : ∃ q, v.m[i]? = some q := ⟨_, List.getElem?_eq_getElem (show i < v.m.length by omega)⟩
      have hms := msize_mem hq
      have hqp := jsize_pos q.2
      have hts2 := msize_take v.m i q hq
      have htl3 := msize_take_le v.m (i + 1)
      refine AWp_skip ?_
      refine AWp_seq ?_
      refine AWp_block ?_
      -- region 9 ref.go:463
      refine AWp_regL ?_
      refine st rfl rfl rfl (op_moveO rfl rfl) ?_
      refine st rfl rfl rfl (op_fieldAddrO (fo := 7) rfl Tryd.underlying28 rfl rfl Tryd.sizeOf26 (by decide) rfl trivial) ?_
      refine st rfl rfl rfl (op_load1 rfl Tryd.isAgg26 (by first | exact ldv_own rfl rfl | exact ldv_pp rfl | exact ldv_old (by assumption) rfl | exact ldv_ptr (by assumption) rfl)) ?_
      refine st rfl rfl rfl (op_moveO rfl rfl) ?_
      refine st rfl rfl rfl ((by first | exact op_indexAddr rfl Tryd.underlying26 Tryd.sizeOf30 rfl rfl (by omega) (by first | exact lcells_get (by assumption) | exact mcells_get (by assumption) | exact brows_at (by omega) | assumption) | fail)) ?_
      refine st rfl rfl rfl (op_fieldAddrO (fo := 1) rfl Tryd.underlying30 rfl rfl Tryd.sizeOf28 (by decide) rfl trivial) ?_
      rw [vcells_eq q.2]
      refine st rfl rfl rfl (op_loadK (cs := [_, _, _, _, _, _, _, _]) rfl Tryd.isAgg28 Tryd.sizeOf28 (by first | exact ldv_own rfl rfl | exact ldv_pp rfl | exact ldv_old (by assumption) rfl | exact ldv_ptr (by assumption) rfl)) ?_
      refine st rfl rfl rfl (op_callF rfl rfl rfl Tryd.func19 rfl rfl (AC1 (vcells_eq q.2) (ih q.2 _ (by omega) (by omega)))) ?_
      refine st rfl rfl rfl (op_max2 rfl rfl rfl) ?_
      refine st rfl rfl rfl (op_assignO rfl rfl) ?_
      refine AOps_nil ?_
      -- region 8 ref.go:462
      refine AWp_regL ?_
      refine st rfl rfl rfl (op_moveO rfl rfl) ?_
      refine st rfl rfl rfl (op_add64 rfl rfl rfl (by omega) (by omega)) ?_
      refine st rfl rfl rfl (op_assignO rfl rfl) ?_
      refine AOps_nil ?_
      refine ⟨i + 1, σ.length + 1, by omega, by omega, by simp, ⟨rfl, rfl, ?_, rfl, trivial⟩, closed_own 1 hcl ?_, ?_, take_own 1⟩
      · rw [mdep_take v.m i q hq, show ∀ a b c : Int, max a (max b c) = max (max a b) c by intros; omega]; rfl
      · simp [ownLt, AO.cells, AV.ltL, AV.lt]
      · simp [ltE, AV.lt]
    · (try rw [h2]); (try simp only [decide_eq_true_eq, decide_eq_false_iff_not, Bool.not_eq_true', Bool.not_eq_false', Int.not_lt, Int.not_le, Bool.not_true, Bool.not_false, Int.toNat_natCast, bne_iff_ne, beq_iff_eq, beq_eq_false_iff_ne, ne_eq, Decidable.not_not] at h2)
      have hie2 : v.m.take i = v.m := by rw [show i = v.m.length by omega]; exact List.take_length
      rw [hie2]
      refine AWp_exit ?_
      refine AWp_seq ?_
      refine AWp_seq ?_
      -- region 10 ref.go:465
      refine AWp_regL ?_
      refine st rfl rfl rfl (op_fieldAddrO (fo := 0) rfl Tryd.underlying28 rfl rfl Tryd.sizeOf3 (by decide) rfl trivial) ?_
      refine st rfl rfl rfl (op_load1 rfl Tryd.isAgg3 (by first | exact ldv_own rfl rfl | exact ldv_pp rfl | exact ldv_old (by assumption) rfl | exact ldv_ptr (by assumption) rfl)) ?_
      refine st rfl rfl rfl (op_eql rfl rfl rfl) ?_
      refine st rfl rfl rfl (op_moveO rfl rfl) ?_
      refine AOps_split 40 rfl (fun h3 => ?_) (fun h3 => ?_)
      · rw [h3]; (try simp only [decide_eq_true_eq, decide_eq_false_iff_not, Bool.not_eq_true', Bool.not_eq_false', Int.not_lt, Int.not_le, Bool.not_true, Bool.not_false, Int.toNat_natCast, bne_iff_ne, beq_iff_eq, beq_eq_false_iff_ne, ne_eq, Decidable.not_not] at h3)
        refine stS rfl rfl rfl (.inl rfl) rfl rfl ?_
        refine stS rfl rfl rfl (.inl rfl) rfl rfl ?_
        refine stS rfl rfl rfl (.inl rfl) rfl rfl ?_
        refine st rfl rfl rfl (op_pickTO rfl rfl rfl) ?_
        refine AOps_nil ?_
        refine AWp_condT rfl ?_
        refine AWp_seq ?_
        -- region 11 ref.go:466
        refine AWp_regL ?_
        refine st rfl rfl rfl (op_moveO rfl rfl) ?_
        refine st rfl rfl rfl (op_add64 rfl rfl rfl (by omega) (by omega)) ?_
        refine st rfl rfl rfl (op_assignO rfl rfl) ?_
        refine AOps_nil ?_
        refine AWp_ret ?_
        (try simp only [blockQ, thenQ])
        refine ResQ_1 rfl hcl trivial (Ret_of ?_)
        congr 1; rw [hde]; first | (rw [if_pos (by omega)]; done) | (rw [if_neg (by omega)]; done)
      · rw [h3]; (try simp only [decide_eq_true_eq, decide_eq_false_iff_not, Bool.not_eq_true', Bool.not_eq_false', Int.not_lt, Int.not_le, Bool.not_true, Bool.not_false, Int.toNat_natCast, bne_iff_ne, beq_iff_eq, beq_eq_false_iff_ne, ne_eq, Decidable.not_not] at h3)
        refine stG rfl rfl rfl rfl rfl rfl (op_fieldAddrO (fo := 0) rfl Tryd.underlying28 rfl rfl Tryd.sizeOf3 (by decide) rfl trivial) ?_
        refine stG rfl rfl rfl rfl rfl rfl (op_load1 rfl Tryd.isAgg3 (by first | exact ldv_own rfl rfl | exact ldv_pp rfl | exact ldv_old (by assumption) rfl | exact ldv_ptr (by assumption) rfl)) ?_
        refine stG rfl rfl rfl rfl rfl rfl (op_eql rfl rfl rfl) ?_
        refine st rfl rfl rfl (op_pickFO rfl rfl rfl) ?_
        refine AOps_nil ?_
        refine AWp_cond rfl (fun h4 => ?_) (fun h4 => ?_)
        · (try rw [h4]); (try simp only [decide_eq_true_eq, decide_eq_false_iff_not, Bool.not_eq_true', Bool.not_eq_false', Int.not_lt, Int.not_le, Bool.not_true, Bool.not_false, Int.toNat_natCast, bne_iff_ne, beq_iff_eq, beq_eq_false_iff_ne, ne_eq, Decidable.not_not] at h4)
          refine AWp_seq ?_
          -- region 11 ref.go:466
          refine AWp_regL ?_
          refine st rfl rfl rfl (op_moveO rfl rfl) ?_
          refine st rfl rfl rfl (op_add64 rfl rfl rfl (by omega) (by omega)) ?_
          refine st rfl rfl rfl (op_assignO rfl rfl) ?_
          refine AOps_nil ?_
          refine AWp_ret ?_
          (try simp only [blockQ, thenQ])
          refine ResQ_1 rfl hcl trivial (Ret_of ?_)
          congr 1; rw [hde]; first | (rw [if_pos (by omega)]; done) | (rw [if_neg (by omega)]; done)
        · (try rw [h4]); (try simp only [decide_eq_true_eq, decide_eq_false_iff_not, Bool.not_eq_true', Bool.not_eq_false', Int.not_lt, Int.not_le, Bool.not_true, Bool.not_false, Int.toNat_natCast, bne_iff_ne, beq_iff_eq, beq_eq_false_iff_ne, ne_eq, Decidable.not_not] at h4)
          refine AWp_skip ?_
          refine AWp_seq ?_
          -- region 12 ref.go:468
          refine AWp_regL ?_
          refine st rfl rfl rfl (op_assignO rfl rfl) ?_
          refine AOps_nil ?_
          refine AWp_ret ?_
          (try simp only [blockQ, thenQ])
          refine ResQ_1 rfl hcl trivial (Ret_of ?_)
          congr 1; rw [hde]; first | (rw [if_pos (by omega)]; done) | (rw [if_neg (by omega)]; done)

end Lg
set_option maxRecDepth 20000
set_option maxHeartbeats 4000000
namespace Lg
open Go Go.Proofs Go.RowKit
variable [GLay] 


theorem rsame_any (n : Nat) : ∀ (x y : JV) (σ : List AO), jsize x ≤ n → jb x → jb y → ACalls Tryd.prog 14 [.agg (vcells x), .agg (vcells y)] σ (Ret (.bool (pb (x = y))) σ) := by
  induction n with
  | zero => intro x y σ h; have := jsize_pos x; omega
  | succ n ih =>
  intro x y σ hn hjx hjy
  have hvs := jsize_eq x
  have hl := lsize_nn x.l
  have hm := msize_nn x.m
  obtain ⟨hb1, hb2, hb3, hb4, hb5, hb6⟩ := (jb_eq x).1 hjx
  obtain ⟨hc1, hc2, hc3, hc4, hc5, hc6⟩ := (jb_eq y).1 hjy
  have hxl := lcells_length x.l
  have hyl := lcells_length y.l
  have hxm := mcells_length x.m
  have hym := mcells_length y.m
  refine ACalls_body Tryd.func14 rfl Tryd.ntmps14 (res1 Tryd.results14) (Nat.le_of_ble_eq_true rfl) (fun hcl hal => ?_)
  rw [vcells_eq x, vcells_eq y]
  refine AWp_seq ?_
  -- region 0 ref.go:425
  refine AWp_regL ?_
  refine st rfl rfl rfl (op_box0 (cs := [_, _, _, _, _, _, _, _]) rfl rfl rfl) ?_
  refine st rfl rfl rfl (op_boxO (cs := [_, _, _, _, _, _, _, _]) 1 rfl rfl rfl rfl) ?_
  refine st rfl rfl rfl (op_assignO rfl rfl) ?_
  refine AOps_nil ?_
  refine AWp_seq ?_
  refine AWp_seq ?_
  -- region 1 ref.go:426
  refine AWp_regL ?_
  refine st rfl rfl rfl (op_fieldAddrO (fo := 0) rfl Tryd.underlying28 rfl rfl Tryd.sizeOf3 (by decide) rfl trivial) ?_
  refine st rfl rfl rfl (op_load1 rfl Tryd.isAgg3 (by first | exact ldv_own rfl rfl | exact ldv_pp rfl | exact ldv_old (by assumption) rfl | exact ldv_ptr (by assumption) rfl)) ?_
  refine st rfl rfl rfl (op_fieldAddrO (fo := 0) rfl Tryd.underlying28 rfl rfl Tryd.sizeOf3 (by decide) rfl trivial) ?_
  refine st rfl rfl rfl (op_load1 rfl Tryd.isAgg3 (by first | exact ldv_own rfl rfl | exact ldv_pp rfl | exact ldv_old (by assumption) rfl | exact ldv_ptr (by assumption) rfl)) ?_
  refine st rfl rfl rfl (op_neq rfl rfl rfl) ?_
  refine st rfl rfl rfl (op_moveO rfl rfl) ?_
  refine AOps_split 14 rfl (fun h1 => ?_) (fun h1 => ?_)
  · rw [h1]; (try simp only [decide_eq_true_eq, decide_eq_false_iff_not, Bool.not_eq_true', Bool.not_eq_false', Int.not_lt, Int.not_le, Bool.not_true, Bool.not_false, Int.toNat_natCast, bne_iff_ne, beq_iff_eq, beq_eq_false_iff_ne, ne_eq, Decidable.not_not] at h1)
    refine stS rfl rfl rfl (.inl rfl) rfl rfl ?_
    refine stS rfl rfl rfl (.inl rfl) rfl rfl ?_
    refine stS rfl rfl rfl (.inl rfl) rfl rfl ?_
    refine stS rfl rfl rfl (.inl rfl) rfl rfl ?_
    refine stS rfl rfl rfl (.inl rfl) rfl rfl ?_
    refine st rfl rfl rfl (op_pickTO rfl rfl rfl) ?_
    refine st rfl rfl rfl (op_moveO rfl rfl) ?_
    refine stS rfl rfl rfl (.inl rfl) rfl rfl ?_
    refine stS rfl rfl rfl (.inl rfl) rfl rfl ?_
    refine stS rfl rfl rfl (.inl rfl) rfl rfl ?_
    refine stS rfl rfl rfl (.inl rfl) rfl rfl ?_
    refine stS rfl rfl rfl (.inl rfl) rfl rfl ?_
    refine st rfl rfl rfl (op_pickTO rfl rfl rfl) ?_
    refine st rfl rfl rfl (op_moveO rfl rfl) ?_
    refine stS rfl rfl rfl (.inl rfl) rfl rfl ?_
    refine stS rfl rfl rfl (.inl rfl) rfl rfl ?_
    refine stS rfl rfl rfl (.inl rfl) rfl rfl ?_
    refine stS rfl rfl rfl (.inl rfl) rfl rfl ?_
    refine stS rfl rfl rfl (.inl rfl) rfl rfl ?_
    refine st rfl rfl rfl (op_pickTO rfl rfl rfl) ?_
    refine st rfl rfl rfl (op_moveO rfl rfl) ?_
    refine stS rfl rfl rfl (.inl rfl) rfl rfl ?_
    refine stS rfl rfl rfl (.inl rfl) rfl rfl ?_
    refine stS rfl rfl rfl (.inl rfl) rfl rfl ?_
    refine stS rfl rfl rfl (.inl rfl) rfl rfl ?_
    refine stS rfl rfl rfl (.inl rfl) rfl rfl ?_
    refine stS rfl rfl rfl (.inl rfl) rfl rfl ?_
    refine stS rfl rfl rfl (.inl rfl) rfl rfl ?_
    refine st rfl rfl rfl (op_pickTO rfl rfl rfl) ?_
    refine st rfl rfl rfl (op_moveO rfl rfl) ?_
    refine stS rfl rfl rfl (.inl rfl) rfl rfl ?_
    refine stS rfl rfl rfl (.inl rfl) rfl rfl ?_
    refine stS rfl rfl rfl (.inl rfl) rfl rfl ?_
    refine stS rfl rfl rfl (.inl rfl) rfl rfl ?_
    refine stS rfl rfl rfl (.inl rfl) rfl rfl ?_
    refine stS rfl rfl rfl (.inl rfl) rfl rfl ?_
    refine stS rfl rfl rfl (.inl rfl) rfl rfl ?_
    refine st rfl rfl rfl (op_pickTO rfl rfl rfl) ?_
    refine AOps_nil ?_
    refine AWp_condT rfl ?_
    refine AWp_seq ?_
    -- region 2 ref.go:427
    refine AWp_regL ?_
    refine st rfl rfl rfl (op_assignO rfl rfl) ?_
    refine AOps_nil ?_
    refine AWp_ret ?_
    (try simp only [blockQ, thenQ])
    refine ResQ_1 rfl hcl trivial (Ret_of (bool_f ?_))
    rw [jv_ext]; intro hj; obtain ⟨j1, j2, ⟨j3, j4, j5⟩, j6, j7, j8⟩ := hj
    simp_all
  · rw [h1]; (try simp only [decide_eq_true_eq, decide_eq_false_iff_not, Bool.not_eq_true', Bool.not_eq_false', Int.not_lt, Int.not_le, Bool.not_true, Bool.not_false, Int.toNat_natCast, bne_iff_ne, beq_iff_eq, beq_eq_false_iff_ne, ne_eq, Decidable.not_not] at h1)
    refine stG rfl rfl rfl rfl rfl rfl (op_fieldAddrO (fo := 1) rfl Tryd.underlying28 rfl rfl Tryd.sizeOf4 (by decide) rfl trivial) ?_
    refine stG rfl rfl rfl rfl rfl rfl (op_load1 rfl Tryd.isAgg4 (by first | exact ldv_own rfl rfl | exact ldv_pp rfl | exact ldv_old (by assumption) rfl | exact ldv_ptr (by assumption) rfl)) ?_
    refine stG rfl rfl rfl rfl rfl rfl (op_fieldAddrO (fo := 1) rfl Tryd.underlying28 rfl rfl Tryd.sizeOf4 (by decide) rfl trivial) ?_
    refine stG rfl rfl rfl rfl rfl rfl (op_load1 rfl Tryd.isAgg4 (by first | exact ldv_own rfl rfl | exact ldv_pp rfl | exact ldv_old (by assumption) rfl | exact ldv_ptr (by assumption) rfl)) ?_
    refine stG rfl rfl rfl rfl rfl rfl (op_bneq rfl Tryd.underlying4 rfl rfl) ?_
    refine st rfl rfl rfl (op_pickFO rfl rfl rfl) ?_
    refine st rfl rfl rfl (op_moveO rfl rfl) ?_
    refine AOps_split 21 rfl (fun h2 => ?_) (fun h2 => ?_)
    · rw [h2]; (try simp only [decide_eq_true_eq, decide_eq_false_iff_not, Bool.not_eq_true', Bool.not_eq_false', Int.not_lt, Int.not_le, Bool.not_true, Bool.not_false, Int.toNat_natCast, bne_iff_ne, beq_iff_eq, beq_eq_false_iff_ne, ne_eq, Decidable.not_not] at h2)
      refine stS rfl rfl rfl (.inl rfl) rfl rfl ?_
      refine stS rfl rfl rfl (.inl rfl) rfl rfl ?_
      refine stS rfl rfl rfl (.inl rfl) rfl rfl ?_
      refine stS rfl rfl rfl (.inl rfl) rfl rfl ?_
      refine stS rfl rfl rfl (.inl rfl) rfl rfl ?_
      refine st rfl rfl rfl (op_pickTO rfl rfl rfl) ?_
      refine st rfl rfl rfl (op_moveO rfl rfl) ?_
      refine stS rfl rfl rfl (.inl rfl) rfl rfl ?_
      refine stS rfl rfl rfl (.inl rfl) rfl rfl ?_
      refine stS rfl rfl rfl (.inl rfl) rfl rfl ?_
      refine stS rfl rfl rfl (.inl rfl) rfl rfl ?_
      refine stS rfl rfl rfl (.inl rfl) rfl rfl ?_
      refine st rfl rfl rfl (op_pickTO rfl rfl rfl) ?_
      refine st rfl rfl rfl (op_moveO rfl rfl) ?_
      refine stS rfl rfl rfl (.inl rfl) rfl rfl ?_
      refine stS rfl rfl rfl (.inl rfl) rfl rfl ?_
      refine stS rfl rfl rfl (.inl rfl) rfl rfl ?_
      refine stS rfl rfl rfl (.inl rfl) rfl rfl ?_
      refine stS rfl rfl rfl (.inl rfl) rfl rfl ?_
      refine stS rfl rfl rfl (.inl rfl) rfl rfl ?_
      refine stS rfl rfl rfl (.inl rfl) rfl rfl ?_
      refine st rfl rfl rfl (op_pickTO rfl rfl rfl) ?_
      refine st rfl rfl rfl (op_moveO rfl rfl) ?_
      refine stS rfl rfl rfl (.inl rfl) rfl rfl ?_
      refine stS rfl rfl rfl (.inl rfl) rfl rfl ?_
      refine stS rfl rfl rfl (.inl rfl) rfl rfl ?_
      refine stS rfl rfl rfl (.inl rfl) rfl rfl ?_
      refine stS rfl rfl rfl (.inl rfl) rfl rfl ?_
      refine stS rfl rfl rfl (.inl rfl) rfl rfl ?_
      refine stS rfl rfl rfl (.inl rfl) rfl rfl ?_
      refine st rfl rfl rfl (op_pickTO rfl rfl rfl) ?_
      refine AOps_nil ?_
      refine AWp_condT rfl ?_
      refine AWp_seq ?_
      -- region 2 ref.go:427
      refine AWp_regL ?_
      refine st rfl rfl rfl (op_assignO rfl rfl) ?_
      refine AOps_nil ?_
      refine AWp_ret ?_
      (try simp only [blockQ, thenQ])
      refine ResQ_1 rfl hcl trivial (Ret_of (bool_f ?_))
      rw [jv_ext]; intro hj; obtain ⟨j1, j2, ⟨j3, j4, j5⟩, j6, j7, j8⟩ := hj
      simp_all
    · rw [h2]; (try simp only [decide_eq_true_eq, decide_eq_false_iff_not, Bool.not_eq_true', Bool.not_eq_false', Int.not_lt, Int.not_le, Bool.not_true, Bool.not_false, Int.toNat_natCast, bne_iff_ne, beq_iff_eq, beq_eq_false_iff_ne, ne_eq, Decidable.not_not] at h2)
      refine stG rfl rfl rfl rfl rfl rfl (op_fieldAddrO (fo := 2) rfl Tryd.underlying28 rfl rfl Tryd.sizeOf23 (by decide) rfl trivial) ?_
      refine stG rfl rfl rfl rfl rfl rfl (op_loadK (cs := [_, _, _]) rfl Tryd.isAgg23 Tryd.sizeOf23 (by first | exact ldv_own rfl rfl | exact ldv_pp rfl | exact ldv_old (by assumption) rfl | exact ldv_ptr (by assumption) rfl)) ?_
      refine stG rfl rfl rfl rfl rfl rfl (op_fieldAddrO (fo := 2) rfl Tryd.underlying28 rfl rfl Tryd.sizeOf23 (by decide) rfl trivial) ?_
      refine stG rfl rfl rfl rfl rfl rfl (op_loadK (cs := [_, _, _]) rfl Tryd.isAgg23 Tryd.sizeOf23 (by first | exact ldv_own rfl rfl | exact ldv_pp rfl | exact ldv_old (by assumption) rfl | exact ldv_ptr (by assumption) rfl)) ?_
      refine stG rfl rfl rfl rfl rfl rfl (op_neS rfl Tryd.underlying23 (by kernel_rfl) (by kernel_rfl) (.bool _ _ _ _ _ _ _ _ (by decide) rfl Tryd.underlying4 (.str _ _ _ _ _ _ _ _ (by decide) rfl Tryd.underlying9 (.int _ _ _ _ _ _ _ _ _ _ (by decide) rfl Tryd.underlying3 (.nil _)))) rfl rfl) ?_
      refine st rfl rfl rfl (op_pickFO rfl rfl rfl) ?_
      refine st rfl rfl rfl (op_moveO rfl rfl) ?_
      refine AOps_split 28 rfl (fun h3 => ?_) (fun h3 => ?_)
      · rw [h3]; (try simp only [decide_eq_true_eq, decide_eq_false_iff_not, Bool.not_eq_true', Bool.not_eq_false', Int.not_lt, Int.not_le, Bool.not_true, Bool.not_false, Int.toNat_natCast, bne_iff_ne, beq_iff_eq, beq_eq_false_iff_ne, ne_eq, Decidable.not_not] at h3)
        refine stS rfl rfl rfl (.inl rfl) rfl rfl ?_
        refine stS rfl rfl rfl (.inl rfl) rfl rfl ?_
        refine stS rfl rfl rfl (.inl rfl) rfl rfl ?_
        refine stS rfl rfl rfl (.inl rfl) rfl rfl ?_
        refine stS rfl rfl rfl (.inl rfl) rfl rfl ?_
        refine st rfl rfl rfl (op_pickTO rfl rfl rfl) ?_
        refine st rfl rfl rfl (op_moveO rfl rfl) ?_
        refine stS rfl rfl rfl (.inl rfl) rfl rfl ?_
        refine stS rfl rfl rfl (.inl rfl) rfl rfl ?_
        refine stS rfl rfl rfl (.inl rfl) rfl rfl ?_
        refine stS rfl rfl rfl (.inl rfl) rfl rfl ?_
        refine stS rfl rfl rfl (.inl rfl) rfl rfl ?_
        refine stS rfl rfl rfl (.inl rfl) rfl rfl ?_
        refine stS rfl rfl rfl (.inl rfl) rfl rfl ?_
        refine st rfl rfl rfl (op_pickTO rfl rfl rfl) ?_
        refine st rfl rfl rfl (op_moveO rfl rfl) ?_
        refine stS rfl rfl rfl (.inl rfl) rfl rfl ?_
        refine stS rfl rfl rfl (.inl rfl) rfl rfl ?_
        refine stS rfl rfl rfl (.inl rfl) rfl rfl ?_
        refine stS rfl rfl rfl (.inl rfl) rfl rfl ?_
        refine stS rfl rfl rfl (.inl rfl) rfl rfl ?_
        refine stS rfl rfl rfl (.inl rfl) rfl rfl ?_
        refine stS rfl rfl rfl (.inl rfl) rfl rfl ?_
        refine st rfl rfl rfl (op_pickTO rfl rfl rfl) ?_
        refine AOps_nil ?_
        refine AWp_condT rfl ?_
        refine AWp_seq ?_
        -- region 2 ref.go:427
        refine AWp_regL ?_
        refine st rfl rfl rfl (op_assignO rfl rfl) ?_
        refine AOps_nil ?_
        refine AWp_ret ?_
        (try simp only [blockQ, thenQ])
        refine ResQ_1 rfl hcl trivial (Ret_of (bool_f ?_))
        rw [jv_ext]; intro hj; obtain ⟨j1, j2, ⟨j3, j4, j5⟩, j6, j7, j8⟩ := hj
        simp_all
      · rw [h3]; (try simp only [decide_eq_true_eq, decide_eq_false_iff_not, Bool.not_eq_true', Bool.not_eq_false', Int.not_lt, Int.not_le, Bool.not_true, Bool.not_false, Int.toNat_natCast, bne_iff_ne, beq_iff_eq, beq_eq_false_iff_ne, ne_eq, Decidable.not_not] at h3)
        refine stG rfl rfl rfl rfl rfl rfl (op_fieldAddrO (fo := 5) rfl Tryd.underlying28 rfl rfl Tryd.sizeOf9 (by decide) rfl trivial) ?_
        refine stG rfl rfl rfl rfl rfl rfl (op_load1 rfl Tryd.isAgg9 (by first | exact ldv_own rfl rfl | exact ldv_pp rfl | exact ldv_old (by assumption) rfl | exact ldv_ptr (by assumption) rfl)) ?_
        refine stG rfl rfl rfl rfl rfl rfl (op_fieldAddrO (fo := 5) rfl Tryd.underlying28 rfl rfl Tryd.sizeOf9 (by decide) rfl trivial) ?_
        refine stG rfl rfl rfl rfl rfl rfl (op_load1 rfl Tryd.isAgg9 (by first | exact ldv_own rfl rfl | exact ldv_pp rfl | exact ldv_old (by assumption) rfl | exact ldv_ptr (by assumption) rfl)) ?_
        refine stG rfl rfl rfl rfl rfl rfl (op_sneq rfl rfl rfl) ?_
        refine st rfl rfl rfl (op_pickFO rfl rfl rfl) ?_
        refine st rfl rfl rfl (op_moveO rfl rfl) ?_
        refine AOps_split 35 rfl (fun h4 => ?_) (fun h4 => ?_)
        · rw [h4]; (try simp only [decide_eq_true_eq, decide_eq_false_iff_not, Bool.not_eq_true', Bool.not_eq_false', Int.not_lt, Int.not_le, Bool.not_true, Bool.not_false, Int.toNat_natCast, bne_iff_ne, beq_iff_eq, beq_eq_false_iff_ne, ne_eq, Decidable.not_not] at h4)
          refine stS rfl rfl rfl (.inl rfl) rfl rfl ?_
          refine stS rfl rfl rfl (.inl rfl) rfl rfl ?_
          refine stS rfl rfl rfl (.inl rfl) rfl rfl ?_
          refine stS rfl rfl rfl (.inl rfl) rfl rfl ?_
          refine stS rfl rfl rfl (.inl rfl) rfl rfl ?_
          refine stS rfl rfl rfl (.inl rfl) rfl rfl ?_
          refine stS rfl rfl rfl (.inl rfl) rfl rfl ?_
          refine st rfl rfl rfl (op_pickTO rfl rfl rfl) ?_
          refine st rfl rfl rfl (op_moveO rfl rfl) ?_
          refine stS rfl rfl rfl (.inl rfl) rfl rfl ?_
          refine stS rfl rfl rfl (.inl rfl) rfl rfl ?_
          refine stS rfl rfl rfl (.inl rfl) rfl rfl ?_
          refine stS rfl rfl rfl (.inl rfl) rfl rfl ?_
          refine stS rfl rfl rfl (.inl rfl) rfl rfl ?_
          refine stS rfl rfl rfl (.inl rfl) rfl rfl ?_
          refine stS rfl rfl rfl (.inl rfl) rfl rfl ?_
          refine st rfl rfl rfl (op_pickTO rfl rfl rfl) ?_
          refine AOps_nil ?_
          refine AWp_condT rfl ?_
          refine AWp_seq ?_
          -- region 2 ref.go:427
          refine AWp_regL ?_
          refine st rfl rfl rfl (op_assignO rfl rfl) ?_
          refine AOps_nil ?_
          refine AWp_ret ?_
          (try simp only [blockQ, thenQ])
          refine ResQ_1 rfl hcl trivial (Ret_of (bool_f ?_))
          rw [jv_ext]; intro hj; obtain ⟨j1, j2, ⟨j3, j4, j5⟩, j6, j7, j8⟩ := hj
          simp_all
        · rw [h4]; (try simp only [decide_eq_true_eq, decide_eq_false_iff_not, Bool.not_eq_true', Bool.not_eq_false', Int.not_lt, Int.not_le, Bool.not_true, Bool.not_false, Int.toNat_natCast, bne_iff_ne, beq_iff_eq, beq_eq_false_iff_ne, ne_eq, Decidable.not_not] at h4)
          refine stG rfl rfl rfl rfl rfl rfl (op_fieldAddrO (fo := 6) rfl Tryd.underlying28 rfl rfl Tryd.sizeOf25 (by decide) rfl trivial) ?_
          refine stG rfl rfl rfl rfl rfl rfl (op_load1 rfl Tryd.isAgg25 (by first | exact ldv_own rfl rfl | exact ldv_pp rfl | exact ldv_old (by assumption) rfl | exact ldv_ptr (by assumption) rfl)) ?_
          refine stG rfl rfl rfl rfl rfl rfl (op_lenS rfl rfl Tryd.underlying25 rfl rfl trivial) ?_
          refine stG rfl rfl rfl rfl rfl rfl (op_fieldAddrO (fo := 6) rfl Tryd.underlying28 rfl rfl Tryd.sizeOf25 (by decide) rfl trivial) ?_
          refine stG rfl rfl rfl rfl rfl rfl (op_load1 rfl Tryd.isAgg25 (by first | exact ldv_own rfl rfl | exact ldv_pp rfl | exact ldv_old (by assumption) rfl | exact ldv_ptr (by assumption) rfl)) ?_
          refine stG rfl rfl rfl rfl rfl rfl (op_lenS rfl rfl Tryd.underlying25 rfl rfl trivial) ?_
          refine stG rfl rfl rfl rfl rfl rfl (op_neq rfl rfl rfl) ?_
          refine st rfl rfl rfl (op_pickFO rfl rfl rfl) ?_
          refine st rfl rfl rfl (op_moveO rfl rfl) ?_
          refine AOps_split 44 rfl (fun h5 => ?_) (fun h5 => ?_)
          · rw [h5]; (try simp only [decide_eq_true_eq, decide_eq_false_iff_not, Bool.not_eq_true', Bool.not_eq_false', Int.not_lt, Int.not_le, Bool.not_true, Bool.not_false, Int.toNat_natCast, bne_iff_ne, beq_iff_eq, beq_eq_false_iff_ne, ne_eq, Decidable.not_not] at h5)
            refine stS rfl rfl rfl (.inl rfl) rfl rfl ?_
            refine stS rfl rfl rfl (.inl rfl) rfl rfl ?_
            refine stS rfl rfl rfl (.inl rfl) rfl rfl ?_
            refine stS rfl rfl rfl (.inl rfl) rfl rfl ?_
            refine stS rfl rfl rfl (.inl rfl) rfl rfl ?_
            refine stS rfl rfl rfl (.inl rfl) rfl rfl ?_
            refine stS rfl rfl rfl (.inl rfl) rfl rfl ?_
            refine st rfl rfl rfl (op_pickTO rfl rfl rfl) ?_
            refine AOps_nil ?_
            refine AWp_condT rfl ?_
            refine AWp_seq ?_
            -- region 2 ref.go:427
            refine AWp_regL ?_
            refine st rfl rfl rfl (op_assignO rfl rfl) ?_
            refine AOps_nil ?_
            refine AWp_ret ?_
            (try simp only [blockQ, thenQ])
            refine ResQ_1 rfl hcl trivial (Ret_of (bool_f ?_))
            rw [jv_ext]; intro hj; obtain ⟨j1, j2, ⟨j3, j4, j5⟩, j6, j7, j8⟩ := hj
            simp_all
          · rw [h5]; (try simp only [decide_eq_true_eq, decide_eq_false_iff_not, Bool.not_eq_true', Bool.not_eq_false', Int.not_lt, Int.not_le, Bool.not_true, Bool.not_false, Int.toNat_natCast, bne_iff_ne, beq_iff_eq, beq_eq_false_iff_ne, ne_eq, Decidable.not_not] at h5)
            refine stG rfl rfl rfl rfl rfl rfl (op_fieldAddrO (fo := 7) rfl Tryd.underlying28 rfl rfl Tryd.sizeOf26 (by decide) rfl trivial) ?_
            refine stG rfl rfl rfl rfl rfl rfl (op_load1 rfl Tryd.isAgg26 (by first | exact ldv_own rfl rfl | exact ldv_pp rfl | exact ldv_old (by assumption) rfl | exact ldv_ptr (by assumption) rfl)) ?_
            refine stG rfl rfl rfl rfl rfl rfl (op_lenS rfl rfl Tryd.underlying26 rfl rfl trivial) ?_
            refine stG rfl rfl rfl rfl rfl rfl (op_fieldAddrO (fo := 7) rfl Tryd.underlying28 rfl rfl Tryd.sizeOf26 (by decide) rfl trivial) ?_
            refine stG rfl rfl rfl rfl rfl rfl (op_load1 rfl Tryd.isAgg26 (by first | exact ldv_own rfl rfl | exact ldv_pp rfl | exact ldv_old (by assumption) rfl | exact ldv_ptr (by assumption) rfl)) ?_
            refine stG rfl rfl rfl rfl rfl rfl (op_lenS rfl rfl Tryd.underlying26 rfl rfl trivial) ?_
            refine stG rfl rfl rfl rfl rfl rfl (op_neq rfl rfl rfl) ?_
            refine st rfl rfl rfl (op_pickFO rfl rfl rfl) ?_
            refine AOps_nil ?_
            refine AWp_cond rfl (fun h6 => ?_) (fun h6 => ?_)
            · (try rw [h6]); (try simp only [decide_eq_true_eq, decide_eq_false_iff_not, Bool.not_eq_true', Bool.not_eq_false', Int.not_lt, Int.not_le, Bool.not_true, Bool.not_false, Int.toNat_natCast, bne_iff_ne, beq_iff_eq, beq_eq_false_iff_ne, ne_eq, Decidable.not_not] at h6)
              refine AWp_seq ?_
              -- region 2 ref.go:427
              refine AWp_regL ?_
              refine st rfl rfl rfl (op_assignO rfl rfl) ?_
              refine AOps_nil ?_
              refine AWp_ret ?_
              (try simp only [blockQ, thenQ])
              refine ResQ_1 rfl hcl trivial (Ret_of (bool_f ?_))
              rw [jv_ext]; intro hj; obtain ⟨j1, j2, ⟨j3, j4, j5⟩, j6, j7, j8⟩ := hj
              simp_all
            · (try rw [h6]); (try simp only [decide_eq_true_eq, decide_eq_false_iff_not, Bool.not_eq_true', Bool.not_eq_false', Int.not_lt, Int.not_le, Bool.not_true, Bool.not_false, Int.toNat_natCast, bne_iff_ne, beq_iff_eq, beq_eq_false_iff_ne, ne_eq, Decidable.not_not] at h6)
              have hlen1 : x.l.length = y.l.length := by omega
              have hlen2 : x.m.length = y.m.length := by omega
              refine AWp_skip ?_
              refine AWp_seq ?_
              refine AWp_seq ?_
              -- region 3 ref.go:429
              refine AWp_regL ?_
              refine st rfl rfl rfl (op_assignO rfl rfl) ?_
              refine AOps_nil ?_
              refine AWp_block ?_
              -- loop 0 LIVE 2:box 3:box 4:assign 5:assign
              refine AWp_loop (ι := Nat) (fun i => i ≤ x.l.length ∧ ∀ j : Nat, j < i → x.l[j]? = y.l[j]?) (fun i => ⟨[], [(2, .ptr (σ.length + 0) 0), (3, .ptr (σ.length + 1) 0), (5, .int .i64 (i : Int))]⟩) (fun i => σ ++ [_, _]) (fun i => x.l.length - i) (0) (⟨Nat.zero_le _, fun j hj => absurd hj (by omega)⟩) ?_ rfl (fun i hi => ?_)
              · exact ⟨rfl, rfl, rfl, rfl, trivial⟩
              obtain ⟨hi1, hi2⟩ := hi
              refine AWp_seq ?_
              refine AWp_seq ?_
              -- region 4 ref.go:429
              refine AWp_regL ?_
              refine st rfl rfl rfl (op_moveO rfl rfl) ?_
              refine st rfl rfl rfl (op_fieldAddrO (fo := 6) rfl Tryd.underlying28 rfl rfl Tryd.sizeOf25 (by decide) rfl trivial) ?_
              refine st rfl rfl rfl (op_load1 rfl Tryd.isAgg25 (by first | exact ldv_own rfl rfl | exact ldv_pp rfl | exact ldv_old (by assumption) rfl | exact ldv_ptr (by assumption) rfl)) ?_
              refine st rfl rfl rfl (op_lenS rfl rfl Tryd.underlying25 rfl rfl trivial) ?_
              refine st rfl rfl rfl (op_lss rfl rfl rfl) ?_
              refine AOps_nil ?_
              refine AWp_cond rfl (fun h7 => ?_) (fun h7 => ?_)
              · (try rw [h7]); (try simp only [decide_eq_true_eq, decide_eq_false_iff_not, Bool.not_eq_true', Bool.not_eq_false', Int.not_lt, Int.not_le, Bool.not_true, Bool.not_false, Int.toNat_natCast, bne_iff_ne, beq_iff_eq, beq_eq_false_iff_ne, ne_eq, Decidable.not_not] at h7)
                obtain ⟨u, hu⟩ : ∃ u, x.l[i]? = some u := ⟨_, List.getElem?_eq_getElem (show i < x.l.length by omega)⟩
                obtain ⟨w, hw⟩ : ∃ w, y.l[i]? = some w := ⟨_, List.getElem?_eq_getElem (show i < y.l.length by omega)⟩
                have hlm := lsize_mem hu
                refine AWp_skip ?_
                refine AWp_seq ?_
                refine AWp_block ?_
                refine AWp_seq ?_
                -- region 6 ref.go:430 DRAWN
                refine AWp_drawL #[0, 1, 0, 7, 15, 0, 32, 0, 224, 480, 1023, 2047] Tryd.mixed (by decide +kernel) (by decide +kernel) ?_
                refine rA rfl rfl rfl rfl (fun _ => op_fieldAddrO (fo := 6) rfl Tryd.underlying28 rfl rfl Tryd.sizeOf25 (by decide) rfl trivial) ?_
                refine rP rfl rfl rfl rfl (op_load1 rfl Tryd.isAgg25 (by first | exact ldv_own rfl rfl | exact ldv_pp rfl | exact ldv_old (by assumption) rfl | exact ldv_ptr (by assumption) rfl)) (trivial) ?_
                refine rA rfl rfl rfl rfl (fun _ => op_moveO rfl rfl) ?_
                refine rA rfl rfl rfl rfl (fun _ => op_indexAddr rfl Tryd.underlying25 Tryd.sizeOf28 rfl rfl (by omega) (lcells_get hu)) ?_
                rw [vcells_eq u]
                refine rP rfl rfl rfl rfl (op_loadK (cs := [_, _, _, _, _, _, _, _]) rfl Tryd.isAgg28 Tryd.sizeOf28 (by first | exact ldv_own rfl rfl | exact ldv_pp rfl | exact ldv_old (by assumption) rfl | exact ldv_ptr (by assumption) rfl)) (trivial) ?_
                refine rA rfl rfl rfl rfl (fun _ => op_fieldAddrO (fo := 6) rfl Tryd.underlying28 rfl rfl Tryd.sizeOf25 (by decide) rfl trivial) ?_
                refine rP rfl rfl rfl rfl (op_load1 rfl Tryd.isAgg25 (by first | exact ldv_own rfl rfl | exact ldv_pp rfl | exact ldv_old (by assumption) rfl | exact ldv_ptr (by assumption) rfl)) (trivial) ?_
                refine rA rfl rfl rfl rfl (fun _ => op_moveO rfl rfl) ?_
                refine rA rfl rfl rfl rfl (fun _ => op_indexAddr rfl Tryd.underlying25 Tryd.sizeOf28 rfl rfl (by omega) (lcells_get hw)) ?_
                rw [vcells_eq w]
                refine rP rfl rfl rfl rfl (op_loadK (cs := [_, _, _, _, _, _, _, _]) rfl Tryd.isAgg28 Tryd.sizeOf28 (by first | exact ldv_own rfl rfl | exact ldv_pp rfl | exact ldv_old (by assumption) rfl | exact ldv_ptr (by assumption) rfl)) (trivial) ?_
                refine rP rfl rfl rfl rfl (op_callF rfl rfl rfl Tryd.func14 rfl rfl (AC2 (vcells_eq u) (vcells_eq w) (ih u w _ (by omega) (lb_get hb5 hu) (lb_get hc5 hw)))) (trivial) ?_
                refine rA rfl rfl rfl rfl (fun _ => op_assignO rfl rfl) ?_
                refine RP.nil rfl ?_
                refine AWp_seq ?_
                -- region 7 ref.go:431
                refine AWp_regL ?_
                refine st rfl rfl rfl (op_moveO rfl rfl) ?_
                refine st rfl rfl rfl (op_not rfl rfl) ?_
                refine AOps_nil ?_
                refine AWp_cond rfl (fun h8 => ?_) (fun h8 => ?_)
                · (try rw [h8]); (try simp only [decide_eq_true_eq, decide_eq_false_iff_not, Bool.not_eq_true', Bool.not_eq_false', Int.not_lt, Int.not_le, Bool.not_true, Bool.not_false, Int.toNat_natCast, bne_iff_ne, beq_iff_eq, beq_eq_false_iff_ne, ne_eq, Decidable.not_not] at h8)
                  refine AWp_seq ?_
                  -- region 8 ref.go:432
                  refine AWp_regL ?_
                  refine st rfl rfl rfl (op_assignO rfl rfl) ?_
                  refine AOps_nil ?_
                  refine AWp_ret ?_
                  (try simp only [blockQ, thenQ])
                  refine ResQ_1 rfl hcl trivial (Ret_of (bool_f fun e => ?_))
                  rw [e] at hu; rw [hu] at hw; cases hw; rw [pb_t rfl] at h8; cases h8
                · (try rw [h8]); (try simp only [decide_eq_true_eq, decide_eq_false_iff_not, Bool.not_eq_true', Bool.not_eq_false', Int.not_lt, Int.not_le, Bool.not_true, Bool.not_false, Int.toNat_natCast, bne_iff_ne, beq_iff_eq, beq_eq_false_iff_ne, ne_eq, Decidable.not_not] at h8)
                  refine AWp_skip ?_
                  -- region 5 ref.go:429
                  refine AWp_regL ?_
                  refine st rfl rfl rfl (op_moveO rfl rfl) ?_
                  refine st rfl rfl rfl (op_add64 rfl rfl rfl (by omega) (by omega)) ?_
                  refine st rfl rfl rfl (op_assignO rfl rfl) ?_
                  refine AOps_nil ?_
                  have huw := (pb_iff _).1 h8
                  refine ⟨i + 1, σ.length + 2, ⟨by omega, fun j hj => ?_⟩, by omega, by simp, ⟨rfl, rfl, rfl, rfl, trivial⟩, closed_own 2 hcl ?_, ?_, take_own 2⟩
                  · by_cases e : j = i
                    · subst e; rw [hu, hw, huw]
                    · exact hi2 j (by omega)
                  · simp [ownLt, AO.cells, AV.ltL, AV.lt]
                  · simp [ltE, AV.lt]
              · (try rw [h7]); (try simp only [decide_eq_true_eq, decide_eq_false_iff_not, Bool.not_eq_true', Bool.not_eq_false', Int.not_lt, Int.not_le, Bool.not_true, Bool.not_false, Int.toNat_natCast, bne_iff_ne, beq_iff_eq, beq_eq_false_iff_ne, ne_eq, Decidable.not_not] at h7)
                have hL : x.l = y.l := list_eq_of hlen1 fun j hj => hi2 j (by omega)
                clear hi2 hi1 h7
                refine AWp_exit ?_
                refine AWp_seq ?_
                refine AWp_seq ?_
                -- region 9 ref.go:435
                refine AWp_regL ?_
                refine st rfl rfl rfl (op_assignO rfl rfl) ?_
                refine AOps_nil ?_
                refine AWp_block ?_
                -- loop 1 LIVE 2:box 3:box 4:assign 7:assign
                refine AWp_loop (ι := Nat) (fun i => i ≤ x.m.length ∧ ∀ j : Nat, j < i → x.m[j]? = y.m[j]?) (fun i => ⟨[], [(2, .ptr (σ.length + 0) 0), (3, .ptr (σ.length + 1) 0), (7, .int .i64 (i : Int))]⟩) (fun i => σ ++ [_, _]) (fun i => x.m.length - i) (0) (⟨Nat.zero_le _, fun j hj => absurd hj (by omega)⟩) ?_ rfl (fun i hi => ?_)
                · exact ⟨rfl, rfl, rfl, rfl, trivial⟩
                obtain ⟨hi3, hi4⟩ := hi
                refine AWp_seq ?_
                refine AWp_seq ?_
                -- region 10 ref.go:435
                refine AWp_regL ?_
                refine st rfl rfl rfl (op_moveO rfl rfl) ?_
                refine st rfl rfl rfl (op_fieldAddrO (fo := 7) rfl Tryd.underlying28 rfl rfl Tryd.sizeOf26 (by decide) rfl trivial) ?_
                refine st rfl rfl rfl (op_load1 rfl Tryd.isAgg26 (by first | exact ldv_own rfl rfl | exact ldv_pp rfl | exact ldv_old (by assumption) rfl | exact ldv_ptr (by assumption) rfl)) ?_
                refine st rfl rfl rfl (op_lenS rfl rfl Tryd.underlying26 rfl rfl trivial) ?_
                refine st rfl rfl rfl (op_lss rfl rfl rfl) ?_
                refine AOps_nil ?_
                refine AWp_cond rfl (fun h9 => ?_) (fun h9 => ?_)
                · (try rw [h9]); (try simp only [decide_eq_true_eq, decide_eq_false_iff_not, Bool.not_eq_true', Bool.not_eq_false', Int.not_lt, Int.not_le, Bool.not_true, Bool.not_false, Int.toNat_natCast, bne_iff_ne, beq_iff_eq, beq_eq_false_iff_ne, ne_eq, Decidable.not_not] at h9)
                  obtain ⟨u, hu⟩ : ∃ u, x.m[i]? = some u := ⟨_, List.getElem?_eq_getElem (show i < x.m.length by omega)⟩
                  obtain ⟨w, hw⟩ : ∃ w, y.m[i]? = some w := ⟨_, List.getElem?_eq_getElem (show i < y.m.length by omega)⟩
                  have hms := msize_mem hu
                  refine AWp_skip ?_
                  refine AWp_seq ?_
                  refine AWp_block ?_
                  refine AWp_seq ?_
                  -- region 12 ref.go:436 DRAWN
                  refine AWp_drawL #[0, 1, 0, 7, 15, 31, 0, 64, 0, 448, 960, 1984, 4095, 8191] Tryd.mixed (by decide +kernel) (by decide +kernel) ?_
                  refine rA rfl rfl rfl rfl (fun _ => op_fieldAddrO (fo := 7) rfl Tryd.underlying28 rfl rfl Tryd.sizeOf26 (by decide) rfl trivial) ?_
                  refine rP rfl rfl rfl rfl (op_load1 rfl Tryd.isAgg26 (by first | exact ldv_own rfl rfl | exact ldv_pp rfl | exact ldv_old (by assumption) rfl | exact ldv_ptr (by assumption) rfl)) (trivial) ?_
                  refine rA rfl rfl rfl rfl (fun _ => op_moveO rfl rfl) ?_
                  refine rA rfl rfl rfl rfl (fun _ => op_indexAddr rfl Tryd.underlying26 Tryd.sizeOf30 rfl rfl (by omega) (mcells_get hu)) ?_
                  refine rA rfl rfl rfl rfl (fun _ => op_fieldAddrO (fo := 1) rfl Tryd.underlying30 rfl rfl Tryd.sizeOf28 (by decide) rfl trivial) ?_
                  rw [vcells_eq u.2]
                  refine rP rfl rfl rfl rfl (op_loadK (cs := [_, _, _, _, _, _, _, _]) rfl Tryd.isAgg28 Tryd.sizeOf28 (by first | exact ldv_own rfl rfl | exact ldv_pp rfl | exact ldv_old (by assumption) rfl | exact ldv_ptr (by assumption) rfl)) (trivial) ?_
                  refine rA rfl rfl rfl rfl (fun _ => op_fieldAddrO (fo := 7) rfl Tryd.underlying28 rfl rfl Tryd.sizeOf26 (by decide) rfl trivial) ?_
                  refine rP rfl rfl rfl rfl (op_load1 rfl Tryd.isAgg26 (by first | exact ldv_own rfl rfl | exact ldv_pp rfl | exact ldv_old (by assumption) rfl | exact ldv_ptr (by assumption) rfl)) (trivial) ?_
                  refine rA rfl rfl rfl rfl (fun _ => op_moveO rfl rfl) ?_
                  refine rA rfl rfl rfl rfl (fun _ => op_indexAddr rfl Tryd.underlying26 Tryd.sizeOf30 rfl rfl (by omega) (mcells_get hw)) ?_
                  refine rA rfl rfl rfl rfl (fun _ => op_fieldAddrO (fo := 1) rfl Tryd.underlying30 rfl rfl Tryd.sizeOf28 (by decide) rfl trivial) ?_
                  rw [vcells_eq w.2]
                  refine rP rfl rfl rfl rfl (op_loadK (cs := [_, _, _, _, _, _, _, _]) rfl Tryd.isAgg28 Tryd.sizeOf28 (by first | exact ldv_own rfl rfl | exact ldv_pp rfl | exact ldv_old (by assumption) rfl | exact ldv_ptr (by assumption) rfl)) (trivial) ?_
                  refine rP rfl rfl rfl rfl (op_callF rfl rfl rfl Tryd.func14 rfl rfl (AC2 (vcells_eq u.2) (vcells_eq w.2) (ih u.2 w.2 _ (by omega) (mb_get hb6 hu).2 (mb_get hc6 hw).2))) (trivial) ?_
                  refine rA rfl rfl rfl rfl (fun _ => op_assignO rfl rfl) ?_
                  refine RP.nil rfl ?_
                  refine AWp_seq ?_
                  -- region 13 ref.go:437 DRAWN
                  refine AWp_drawL #[0, 1, 3, 7, 15, 7, 63, 127, 255, 7, 519, 7, 3591, 7687, 15879, 32767, 65535] Tryd.mixed (by decide +kernel) (by decide +kernel) ?_
                  refine rA rfl rfl rfl rfl (fun _ => op_moveO rfl rfl) ?_
                  refine rA rfl rfl rfl rfl (fun _ => op_not rfl rfl) ?_
                  refine rA rfl rfl rfl rfl (fun _ => op_moveO rfl rfl) ?_
                  refine RP_split 95 rfl (fun h10 => ?_) (fun h10 => ?_)
                  · rw [h10]; (try simp only [decide_eq_true_eq, decide_eq_false_iff_not, Bool.not_eq_true', Bool.not_eq_false', Int.not_lt, Int.not_le, Bool.not_true, Bool.not_false, Int.toNat_natCast, bne_iff_ne, beq_iff_eq, beq_eq_false_iff_ne, ne_eq, Decidable.not_not] at h10)
                    refine rS rfl rfl rfl rfl (.inl rfl) rfl rfl ?_
                    refine rS rfl rfl rfl rfl (.inl rfl) rfl rfl ?_
                    refine rS rfl rfl rfl rfl (.inl rfl) rfl rfl ?_
                    refine rS rfl rfl rfl rfl (.inl rfl) rfl rfl ?_
                    refine rS rfl rfl rfl rfl (.inl rfl) rfl rfl ?_
                    refine rS rfl rfl rfl rfl (.inl rfl) rfl rfl ?_
                    refine rS rfl rfl rfl rfl (.inl rfl) rfl rfl ?_
                    refine rS rfl rfl rfl rfl (.inl rfl) rfl rfl ?_
                    refine rS rfl rfl rfl rfl (.inl rfl) rfl rfl ?_
                    refine rS rfl rfl rfl rfl (.inl rfl) rfl rfl ?_
                    refine rS rfl rfl rfl rfl (.inl rfl) rfl rfl ?_
                    refine rS rfl rfl rfl rfl (.inl rfl) rfl rfl ?_
                    refine rS rfl rfl rfl rfl (.inl rfl) rfl rfl ?_
                    refine rA rfl rfl rfl rfl (fun _ => op_pickTO rfl rfl rfl) ?_
                    refine RP.nil rfl ?_
                    refine AWp_condT rfl ?_
                    refine AWp_seq ?_
                    -- region 14 ref.go:438
                    refine AWp_regL ?_
                    refine st rfl rfl rfl (op_assignO rfl rfl) ?_
                    refine AOps_nil ?_
                    refine AWp_ret ?_
                    (try simp only [blockQ, thenQ])
                    refine ResQ_1 rfl hcl trivial (Ret_of (bool_f fun e => ?_))
                    rw [e] at hu; rw [hu] at hw; cases hw; rw [pb_t rfl] at h10; cases h10
                  · rw [h10]; (try simp only [decide_eq_true_eq, decide_eq_false_iff_not, Bool.not_eq_true', Bool.not_eq_false', Int.not_lt, Int.not_le, Bool.not_true, Bool.not_false, Int.toNat_natCast, bne_iff_ne, beq_iff_eq, beq_eq_false_iff_ne, ne_eq, Decidable.not_not] at h10)
                    refine rAG rfl rfl rfl rfl rfl rfl rfl (fun _ => op_fieldAddrO (fo := 7) rfl Tryd.underlying28 rfl rfl Tryd.sizeOf26 (by decide) rfl trivial) ?_
                    refine rPG rfl rfl rfl rfl rfl rfl rfl (op_load1 rfl Tryd.isAgg26 (by first | exact ldv_own rfl rfl | exact ldv_pp rfl | exact ldv_old (by assumption) rfl | exact ldv_ptr (by assumption) rfl)) (trivial) ?_
                    refine rAG rfl rfl rfl rfl rfl rfl rfl (fun _ => op_moveO rfl rfl) ?_
                    refine rAG rfl rfl rfl rfl rfl rfl rfl (fun _ => op_indexAddr rfl Tryd.underlying26 Tryd.sizeOf30 rfl rfl (by omega) (mcells_get hu)) ?_
                    refine rAG rfl rfl rfl rfl rfl rfl rfl (fun _ => op_fieldAddrO (fo := 0) rfl Tryd.underlying30 rfl rfl Tryd.sizeOf9 (by decide) rfl trivial) ?_
                    refine rPG rfl rfl rfl rfl rfl rfl rfl (op_load1 rfl Tryd.isAgg9 (by first | exact ldv_own rfl rfl | exact ldv_pp rfl | exact ldv_old (by assumption) rfl | exact ldv_ptr (by assumption) rfl)) (trivial) ?_
                    refine rAG rfl rfl rfl rfl rfl rfl rfl (fun _ => op_fieldAddrO (fo := 7) rfl Tryd.underlying28 rfl rfl Tryd.sizeOf26 (by decide) rfl trivial) ?_
                    refine rPG rfl rfl rfl rfl rfl rfl rfl (op_load1 rfl Tryd.isAgg26 (by first | exact ldv_own rfl rfl | exact ldv_pp rfl | exact ldv_old (by assumption) rfl | exact ldv_ptr (by assumption) rfl)) (trivial) ?_
                    refine rAG rfl rfl rfl rfl rfl rfl rfl (fun _ => op_moveO rfl rfl) ?_
                    refine rAG rfl rfl rfl rfl rfl rfl rfl (fun _ => op_indexAddr rfl Tryd.underlying26 Tryd.sizeOf30 rfl rfl (by omega) (mcells_get hw)) ?_
                    refine rAG rfl rfl rfl rfl rfl rfl rfl (fun _ => op_fieldAddrO (fo := 0) rfl Tryd.underlying30 rfl rfl Tryd.sizeOf9 (by decide) rfl trivial) ?_
                    refine rPG rfl rfl rfl rfl rfl rfl rfl (op_load1 rfl Tryd.isAgg9 (by first | exact ldv_own rfl rfl | exact ldv_pp rfl | exact ldv_old (by assumption) rfl | exact ldv_ptr (by assumption) rfl)) (trivial) ?_
                    refine rAG rfl rfl rfl rfl rfl rfl rfl (fun _ => op_sneq rfl rfl rfl) ?_
                    refine rA rfl rfl rfl rfl (fun _ => op_pickFO rfl rfl rfl) ?_
                    refine RP.nil rfl ?_
                    refine AWp_cond rfl (fun h11 => ?_) (fun h11 => ?_)
                    · (try rw [h11]); (try simp only [decide_eq_true_eq, decide_eq_false_iff_not, Bool.not_eq_true', Bool.not_eq_false', Int.not_lt, Int.not_le, Bool.not_true, Bool.not_false, Int.toNat_natCast, bne_iff_ne, beq_iff_eq, beq_eq_false_iff_ne, ne_eq, Decidable.not_not] at h11)
                      refine AWp_seq ?_
                      -- region 14 ref.go:438
                      refine AWp_regL ?_
                      refine st rfl rfl rfl (op_assignO rfl rfl) ?_
                      refine AOps_nil ?_
                      refine AWp_ret ?_
                      (try simp only [blockQ, thenQ])
                      refine ResQ_1 rfl hcl trivial (Ret_of (bool_f fun e => ?_))
                      rw [e] at hu; rw [hu] at hw; cases hw; exact h11 rfl
                    · (try rw [h11]); (try simp only [decide_eq_true_eq, decide_eq_false_iff_not, Bool.not_eq_true', Bool.not_eq_false', Int.not_lt, Int.not_le, Bool.not_true, Bool.not_false, Int.toNat_natCast, bne_iff_ne, beq_iff_eq, beq_eq_false_iff_ne, ne_eq, Decidable.not_not] at h11)
                      refine AWp_skip ?_
                      -- region 11 ref.go:435
                      refine AWp_regL ?_
                      refine st rfl rfl rfl (op_moveO rfl rfl) ?_
                      refine st rfl rfl rfl (op_add64 rfl rfl rfl (by omega) (by omega)) ?_
                      refine st rfl rfl rfl (op_assignO rfl rfl) ?_
                      refine AOps_nil ?_
                      have huw := (pb_iff _).1 h10
                      refine ⟨i + 1, σ.length + 2, ⟨by omega, fun j hj => ?_⟩, by omega, by simp, ⟨rfl, rfl, rfl, rfl, trivial⟩, closed_own 2 hcl ?_, ?_, take_own 2⟩
                      · by_cases e : j = i
                        · subst e; rw [hu, hw, Prod.ext h11 huw]
                        · exact hi4 j (by omega)
                      · simp [ownLt, AO.cells, AV.ltL, AV.lt]
                      · simp [ltE, AV.lt]
                · (try rw [h9]); (try simp only [decide_eq_true_eq, decide_eq_false_iff_not, Bool.not_eq_true', Bool.not_eq_false', Int.not_lt, Int.not_le, Bool.not_true, Bool.not_false, Int.toNat_natCast, bne_iff_ne, beq_iff_eq, beq_eq_false_iff_ne, ne_eq, Decidable.not_not] at h9)
                  have hM : x.m = y.m := list_eq_of hlen2 fun j hj => hi4 j (by omega)
                  refine AWp_exit ?_
                  refine AWp_seq ?_
                  -- region 15 ref.go:441
                  refine AWp_regL ?_
                  refine st rfl rfl rfl (op_assignO rfl rfl) ?_
                  refine AOps_nil ?_
                  refine AWp_ret ?_
                  (try simp only [blockQ, thenQ])
                  refine ResQ_1 rfl hcl trivial (Ret_of (bool_t ((jv_ext x y).2 ?_)))
                  simp_all

end Lg
