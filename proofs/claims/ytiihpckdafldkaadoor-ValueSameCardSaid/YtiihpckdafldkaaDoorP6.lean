/- A part of the proof of ValueSame: Same is of one value with itself, both ways, and on from one to the next, and what follows of size, depth and members; for every input, with no condition: W12 W13 Lg27 Lp1 W14 W15. -/
import Derived.Test.YtiihpckdafldkaaDoorP5
import Derived.Test.YtiihpckdafldkaaDoorP4
import Derived.Test.YtiihpckdafldkaaDoorProg
set_option linter.unusedVariables false
set_option linter.unusedSimpArgs false
set_option linter.unusedSectionVars false
set_option maxRecDepth 20000
set_option maxHeartbeats 4000000
namespace Lg
open Go Go.Proofs Go.RowKit
variable [GLay] 


theorem blank_c (s : ByteArray) (a : Nat) (deep bad spot : Int) (p : Nat) (σ : List AO) (hσ : σ[p]? = some (.box [.str s, .int .i64 (a : Int), .int .i64 deep, .int .i64 bad, .int .i64 spot])) (hs : s.size ≤ 1000000) (ha : a ≤ 1000000) : ACalls Tryd.prog 58 [.ptr p 0] σ (Ret (.tup []) (σ.set p (.box [.str s, .int .i64 ((if bad = 0 then blk s a else a : Nat) : Int), .int .i64 deep, .int .i64 bad, .int .i64 spot]))) := by
  have hp : p < σ.length := (List.getElem?_eq_some_iff.1 hσ).1
  refine ACalls_body Tryd.func58 rfl Tryd.ntmps58 (res0 Tryd.results58) (Nat.le_of_ble_eq_true rfl) (fun hcl hal => ?_)
  refine AWp_heap (set_same hσ) ?_
  refine AWp_block ?_
  -- loop 0 LIVE 0:param
  refine AWp_loop (ι := Nat) (fun i => (bad = 0 → blk s i = blk s a) ∧ (bad ≠ 0 → i = a) ∧ i ≤ 1000000) (fun i => ⟨[], [(0, .ptr p 0)]⟩) (fun i => σ.set p (.box [.str s, .int .i64 (i : Int), .int .i64 deep, .int .i64 bad, .int .i64 spot])) (fun i => s.size - i) (a) (⟨fun _ => rfl, fun _ => rfl, ha⟩) ?_ rfl (fun i hi => ?_)
  · exact ⟨rfl, rfl, trivial⟩
  obtain ⟨hi1, hi2, hi3⟩ := hi
  refine AWp_seq ?_
  refine AWp_seq ?_
  -- region 0 ref.go:508
  refine AWp_regL ?_
  refine st rfl rfl rfl (op_moveO rfl rfl) ?_
  refine st rfl rfl rfl (op_callF rfl rfl rfl Tryd.func59 rfl rfl (peek_c s (i : Int) deep bad spot p _ (get_set hp) (by omega))) ?_
  refine st rfl rfl rfl (op_eql rfl rfl rfl) ?_
  refine st rfl rfl rfl (op_moveO rfl rfl) ?_
  refine AOps_split 5 rfl (fun h1 => ?_) (fun h1 => ?_)
  · rw [h1]; (try simp only [decide_eq_true_eq, decide_eq_false_iff_not, Bool.not_eq_true', Bool.not_eq_false', Int.not_lt, Int.not_le, Bool.not_true, Bool.not_false, Int.toNat_natCast, bne_iff_ne, beq_iff_eq, beq_eq_false_iff_ne, ne_eq, Decidable.not_not] at h1)
    refine stS rfl rfl rfl (.inl rfl) rfl rfl ?_
    refine stS rfl rfl rfl (.inl rfl) rfl rfl ?_
    refine stS rfl rfl rfl (.inl rfl) rfl rfl ?_
    refine st rfl rfl rfl (op_pickTO rfl rfl rfl) ?_
    refine st rfl rfl rfl (op_moveO rfl rfl) ?_
    refine stS rfl rfl rfl (.inl rfl) rfl rfl ?_
    refine stS rfl rfl rfl (.inl rfl) rfl rfl ?_
    refine stS rfl rfl rfl (.inl rfl) rfl rfl ?_
    refine st rfl rfl rfl (op_pickTO rfl rfl rfl) ?_
    refine st rfl rfl rfl (op_moveO rfl rfl) ?_
    refine stS rfl rfl rfl (.inl rfl) rfl rfl ?_
    refine stS rfl rfl rfl (.inl rfl) rfl rfl ?_
    refine stS rfl rfl rfl (.inl rfl) rfl rfl ?_
    refine st rfl rfl rfl (op_pickTO rfl rfl rfl) ?_
    refine AOps_nil ?_
    refine AWp_condT rfl ?_
    refine AWp_skip ?_
    refine AWp_block ?_
    -- region 1 ref.go:509
    refine AWp_regL ?_
    refine st rfl rfl rfl (op_moveO rfl rfl) ?_
    refine st rfl rfl rfl (op_nilCheck rfl rfl rfl) ?_
    refine st rfl rfl rfl (op_fieldAddrO (fo := 1) rfl Tryd.underlying93 rfl rfl Tryd.sizeOf3 (by decide) rfl trivial) ?_
    refine st rfl rfl rfl (op_load1 rfl Tryd.isAgg3 (by first | exact ldv_set hp rfl | exact ldv_setA hp rfl | exact ldv_ownS rfl rfl | exact ldv_pp rfl)) ?_
    refine st rfl rfl rfl (op_add64 rfl rfl rfl (by omega) (by omega)) ?_
    refine st rfl rfl rfl (op_nilCheck rfl rfl rfl) ?_
    refine st rfl rfl rfl (op_fieldAddrO (fo := 1) rfl Tryd.underlying93 rfl rfl Tryd.sizeOf3 (by decide) rfl trivial) ?_
    refine stN rfl rfl ((by first | exact op_storeS (r := [_, _, _, _, _]) rfl Tryd.sizeOf3 rfl rfl rfl hp rfl (by decide) | exact op_storeSA (r := [_, _, _, _, _]) rfl Tryd.sizeOf3 rfl rfl rfl hp rfl (by decide) | exact op_storeOS (r := [_, _, _, _, _]) rfl Tryd.sizeOf3 rfl rfl rfl rfl rfl (by decide))) ?_
    refine AOps_nil ?_
    have hk := pk_yes (s := s) (a := i) (bad := bad) (by omega)
    have hbl : isbl (bat s i) := by simp only [isbl]; omega
    refine ⟨i + 1, σ.length, ⟨fun h => by rw [← blk_yes hk.2.1 hbl]; exact hi1 h, fun h => absurd hk.1 h, by omega⟩, by omega, by simp, ⟨rfl, rfl, trivial⟩, closed_set (x := .box [.str s, .int .i64 ((i : Int) + 1), .int .i64 deep, .int .i64 bad, .int .i64 spot]) hcl (by simp [AO.cells, AV.ltL, AV.lt]), ?_, take_set ?_⟩
    · simp [ltE, AV.lt]; omega
    · rw [Int.natCast_add]; rfl
  · rw [h1]; (try simp only [decide_eq_true_eq, decide_eq_false_iff_not, Bool.not_eq_true', Bool.not_eq_false', Int.not_lt, Int.not_le, Bool.not_true, Bool.not_false, Int.toNat_natCast, bne_iff_ne, beq_iff_eq, beq_eq_false_iff_ne, ne_eq, Decidable.not_not] at h1)
    refine stG rfl rfl rfl rfl rfl rfl (op_moveO rfl rfl) ?_
    refine stG rfl rfl rfl rfl rfl rfl (op_callF rfl rfl rfl Tryd.func59 rfl rfl (peek_c s (i : Int) deep bad spot p _ (get_set hp) (by omega))) ?_
    refine stG rfl rfl rfl rfl rfl rfl (op_eql rfl rfl rfl) ?_
    refine st rfl rfl rfl (op_pickFO rfl rfl rfl) ?_
    refine st rfl rfl rfl (op_moveO rfl rfl) ?_
    refine AOps_split 10 rfl (fun h2 => ?_) (fun h2 => ?_)
    · rw [h2]; (try simp only [decide_eq_true_eq, decide_eq_false_iff_not, Bool.not_eq_true', Bool.not_eq_false', Int.not_lt, Int.not_le, Bool.not_true, Bool.not_false, Int.toNat_natCast, bne_iff_ne, beq_iff_eq, beq_eq_false_iff_ne, ne_eq, Decidable.not_not] at h2)
      refine stS rfl rfl rfl (.inl rfl) rfl rfl ?_
      refine stS rfl rfl rfl (.inl rfl) rfl rfl ?_
      refine stS rfl rfl rfl (.inl rfl) rfl rfl ?_
      refine st rfl rfl rfl (op_pickTO rfl rfl rfl) ?_
      refine st rfl rfl rfl (op_moveO rfl rfl) ?_
      refine stS rfl rfl rfl (.inl rfl) rfl rfl ?_
      refine stS rfl rfl rfl (.inl rfl) rfl rfl ?_
      refine stS rfl rfl rfl (.inl rfl) rfl rfl ?_
      refine st rfl rfl rfl (op_pickTO rfl rfl rfl) ?_
      refine AOps_nil ?_
      refine AWp_condT rfl ?_
      refine AWp_skip ?_
      refine AWp_block ?_
      -- region 1 ref.go:509
      refine AWp_regL ?_
      refine st rfl rfl rfl (op_moveO rfl rfl) ?_
      refine st rfl rfl rfl (op_nilCheck rfl rfl rfl) ?_
      refine st rfl rfl rfl (op_fieldAddrO (fo := 1) rfl Tryd.underlying93 rfl rfl Tryd.sizeOf3 (by decide) rfl trivial) ?_
      refine st rfl rfl rfl (op_load1 rfl Tryd.isAgg3 (by first | exact ldv_set hp rfl | exact ldv_setA hp rfl | exact ldv_ownS rfl rfl | exact ldv_pp rfl)) ?_
      refine st rfl rfl rfl (op_add64 rfl rfl rfl (by omega) (by omega)) ?_
      refine st rfl rfl rfl (op_nilCheck rfl rfl rfl) ?_
      refine st rfl rfl rfl (op_fieldAddrO (fo := 1) rfl Tryd.underlying93 rfl rfl Tryd.sizeOf3 (by decide) rfl trivial) ?_
      refine stN rfl rfl ((by first | exact op_storeS (r := [_, _, _, _, _]) rfl Tryd.sizeOf3 rfl rfl rfl hp rfl (by decide) | exact op_storeSA (r := [_, _, _, _, _]) rfl Tryd.sizeOf3 rfl rfl rfl hp rfl (by decide) | exact op_storeOS (r := [_, _, _, _, _]) rfl Tryd.sizeOf3 rfl rfl rfl rfl rfl (by decide))) ?_
      refine AOps_nil ?_
      have hk := pk_yes (s := s) (a := i) (bad := bad) (by omega)
      have hbl : isbl (bat s i) := by simp only [isbl]; omega
      refine ⟨i + 1, σ.length, ⟨fun h => by rw [← blk_yes hk.2.1 hbl]; exact hi1 h, fun h => absurd hk.1 h, by omega⟩, by omega, by simp, ⟨rfl, rfl, trivial⟩, closed_set (x := .box [.str s, .int .i64 ((i : Int) + 1), .int .i64 deep, .int .i64 bad, .int .i64 spot]) hcl (by simp [AO.cells, AV.ltL, AV.lt]), ?_, take_set ?_⟩
      · simp [ltE, AV.lt]; omega
      · rw [Int.natCast_add]; rfl
    · rw [h2]; (try simp only [decide_eq_true_eq, decide_eq_false_iff_not, Bool.not_eq_true', Bool.not_eq_false', Int.not_lt, Int.not_le, Bool.not_true, Bool.not_false, Int.toNat_natCast, bne_iff_ne, beq_iff_eq, beq_eq_false_iff_ne, ne_eq, Decidable.not_not] at h2)
      refine stG rfl rfl rfl rfl rfl rfl (op_moveO rfl rfl) ?_
      refine stG rfl rfl rfl rfl rfl rfl (op_callF rfl rfl rfl Tryd.func59 rfl rfl (peek_c s (i : Int) deep bad spot p _ (get_set hp) (by omega))) ?_
      refine stG rfl rfl rfl rfl rfl rfl (op_eql rfl rfl rfl) ?_
      refine st rfl rfl rfl (op_pickFO rfl rfl rfl) ?_
      refine st rfl rfl rfl (op_moveO rfl rfl) ?_
      refine AOps_split 15 rfl (fun h3 => ?_) (fun h3 => ?_)
      · rw [h3]; (try simp only [decide_eq_true_eq, decide_eq_false_iff_not, Bool.not_eq_true', Bool.not_eq_false', Int.not_lt, Int.not_le, Bool.not_true, Bool.not_false, Int.toNat_natCast, bne_iff_ne, beq_iff_eq, beq_eq_false_iff_ne, ne_eq, Decidable.not_not] at h3)
        refine stS rfl rfl rfl (.inl rfl) rfl rfl ?_
        refine stS rfl rfl rfl (.inl rfl) rfl rfl ?_
        refine stS rfl rfl rfl (.inl rfl) rfl rfl ?_
        refine st rfl rfl rfl (op_pickTO rfl rfl rfl) ?_
        refine AOps_nil ?_
        refine AWp_condT rfl ?_
        refine AWp_skip ?_
        refine AWp_block ?_
        -- region 1 ref.go:509
        refine AWp_regL ?_
        refine st rfl rfl rfl (op_moveO rfl rfl) ?_
        refine st rfl rfl rfl (op_nilCheck rfl rfl rfl) ?_
        refine st rfl rfl rfl (op_fieldAddrO (fo := 1) rfl Tryd.underlying93 rfl rfl Tryd.sizeOf3 (by decide) rfl trivial) ?_
        refine st rfl rfl rfl (op_load1 rfl Tryd.isAgg3 (by first | exact ldv_set hp rfl | exact ldv_setA hp rfl | exact ldv_ownS rfl rfl | exact ldv_pp rfl)) ?_
        refine st rfl rfl rfl (op_add64 rfl rfl rfl (by omega) (by omega)) ?_
        refine st rfl rfl rfl (op_nilCheck rfl rfl rfl) ?_
        refine st rfl rfl rfl (op_fieldAddrO (fo := 1) rfl Tryd.underlying93 rfl rfl Tryd.sizeOf3 (by decide) rfl trivial) ?_
        refine stN rfl rfl ((by first | exact op_storeS (r := [_, _, _, _, _]) rfl Tryd.sizeOf3 rfl rfl rfl hp rfl (by decide) | exact op_storeSA (r := [_, _, _, _, _]) rfl Tryd.sizeOf3 rfl rfl rfl hp rfl (by decide) | exact op_storeOS (r := [_, _, _, _, _]) rfl Tryd.sizeOf3 rfl rfl rfl rfl rfl (by decide))) ?_
        refine AOps_nil ?_
        have hk := pk_yes (s := s) (a := i) (bad := bad) (by omega)
        have hbl : isbl (bat s i) := by simp only [isbl]; omega
        refine ⟨i + 1, σ.length, ⟨fun h => by rw [← blk_yes hk.2.1 hbl]; exact hi1 h, fun h => absurd hk.1 h, by omega⟩, by omega, by simp, ⟨rfl, rfl, trivial⟩, closed_set (x := .box [.str s, .int .i64 ((i : Int) + 1), .int .i64 deep, .int .i64 bad, .int .i64 spot]) hcl (by simp [AO.cells, AV.ltL, AV.lt]), ?_, take_set ?_⟩
        · simp [ltE, AV.lt]; omega
        · rw [Int.natCast_add]; rfl
      · rw [h3]; (try simp only [decide_eq_true_eq, decide_eq_false_iff_not, Bool.not_eq_true', Bool.not_eq_false', Int.not_lt, Int.not_le, Bool.not_true, Bool.not_false, Int.toNat_natCast, bne_iff_ne, beq_iff_eq, beq_eq_false_iff_ne, ne_eq, Decidable.not_not] at h3)
        refine stG rfl rfl rfl rfl rfl rfl (op_moveO rfl rfl) ?_
        refine stG rfl rfl rfl rfl rfl rfl (op_callF rfl rfl rfl Tryd.func59 rfl rfl (peek_c s (i : Int) deep bad spot p _ (get_set hp) (by omega))) ?_
        refine stG rfl rfl rfl rfl rfl rfl (op_eql rfl rfl rfl) ?_
        refine st rfl rfl rfl (op_pickFO rfl rfl rfl) ?_
        refine AOps_nil ?_
        refine AWp_cond rfl (fun h4 => ?_) (fun h4 => ?_)
        · (try rw [h4]); (try simp only [decide_eq_true_eq, decide_eq_false_iff_not, Bool.not_eq_true', Bool.not_eq_false', Int.not_lt, Int.not_le, Bool.not_true, Bool.not_false, Int.toNat_natCast, bne_iff_ne, beq_iff_eq, beq_eq_false_iff_ne, ne_eq, Decidable.not_not] at h4)
          refine AWp_skip ?_
          refine AWp_block ?_
          -- region 1 ref.go:509
          refine AWp_regL ?_
          refine st rfl rfl rfl (op_moveO rfl rfl) ?_
          refine st rfl rfl rfl (op_nilCheck rfl rfl rfl) ?_
          refine st rfl rfl rfl (op_fieldAddrO (fo := 1) rfl Tryd.underlying93 rfl rfl Tryd.sizeOf3 (by decide) rfl trivial) ?_
          refine st rfl rfl rfl (op_load1 rfl Tryd.isAgg3 (by first | exact ldv_set hp rfl | exact ldv_setA hp rfl | exact ldv_ownS rfl rfl | exact ldv_pp rfl)) ?_
          refine st rfl rfl rfl (op_add64 rfl rfl rfl (by omega) (by omega)) ?_
          refine st rfl rfl rfl (op_nilCheck rfl rfl rfl) ?_
          refine st rfl rfl rfl (op_fieldAddrO (fo := 1) rfl Tryd.underlying93 rfl rfl Tryd.sizeOf3 (by decide) rfl trivial) ?_
          refine stN rfl rfl ((by first | exact op_storeS (r := [_, _, _, _, _]) rfl Tryd.sizeOf3 rfl rfl rfl hp rfl (by decide) | exact op_storeSA (r := [_, _, _, _, _]) rfl Tryd.sizeOf3 rfl rfl rfl hp rfl (by decide) | exact op_storeOS (r := [_, _, _, _, _]) rfl Tryd.sizeOf3 rfl rfl rfl rfl rfl (by decide))) ?_
          refine AOps_nil ?_
          have hk := pk_yes (s := s) (a := i) (bad := bad) (by omega)
          have hbl : isbl (bat s i) := by simp only [isbl]; omega
          refine ⟨i + 1, σ.length, ⟨fun h => by rw [← blk_yes hk.2.1 hbl]; exact hi1 h, fun h => absurd hk.1 h, by omega⟩, by omega, by simp, ⟨rfl, rfl, trivial⟩, closed_set (x := .box [.str s, .int .i64 ((i : Int) + 1), .int .i64 deep, .int .i64 bad, .int .i64 spot]) hcl (by simp [AO.cells, AV.ltL, AV.lt]), ?_, take_set ?_⟩
          · simp [ltE, AV.lt]; omega
          · rw [Int.natCast_add]; rfl
        · (try rw [h4]); (try simp only [decide_eq_true_eq, decide_eq_false_iff_not, Bool.not_eq_true', Bool.not_eq_false', Int.not_lt, Int.not_le, Bool.not_true, Bool.not_false, Int.toNat_natCast, bne_iff_ne, beq_iff_eq, beq_eq_false_iff_ne, ne_eq, Decidable.not_not] at h4)
          refine AWp_exit ?_
          (try simp only [blockQ, thenQ])
          have hfin : i = (if bad = 0 then blk s a else a) := by
            by_cases hb : bad = 0
            · rw [if_pos hb, ← hi1 hb, blk_no]; intro hx; have := pk_in (s := s) hb hx.1; have := hx.2; simp only [isbl] at this; omega
            · rw [if_neg hb]; exact hi2 hb
          rw [← hfin]
          exact ResQ_N0 (x := .box [.str s, .int .i64 (i : Int), .int .i64 deep, .int .i64 bad, .int .i64 spot]) hcl (by simp [AO.cells, AV.ltL, AV.lt]) ⟨rfl, rfl⟩

end Lg
set_option maxRecDepth 20000
set_option maxHeartbeats 4000000
namespace Lg
open Go Go.Proofs Go.RowKit
variable [GLay] 


theorem open_c (s : ByteArray) (a : Nat) (deep bad spot : Int) (p : Nat) (σ : List AO) (hσ : σ[p]? = some (.box [.str s, .int .i64 (a : Int), .int .i64 deep, .int .i64 bad, .int .i64 spot])) (hs : s.size ≤ 1000000) (ha : a < 1000000) (hd : 0 ≤ deep) (hd2 : deep ≤ 1000000) : ACalls Tryd.prog 71 [.ptr p 0] σ (Ret (.tup []) (σ.set p (.box [.str s, .int .i64 ((if (if deep = 32 then (if bad = 0 then 3 else bad) else bad) = 0 then blk s (a + 1) else a + 1 : Nat) : Int), .int .i64 (deep + 1), .int .i64 (if deep = 32 then (if bad = 0 then 3 else bad) else bad), .int .i64 (if deep = 32 then (if bad = 0 then (a : Int) else spot) else spot)]))) := by
  have hp : p < σ.length := (List.getElem?_eq_some_iff.1 hσ).1
  refine ACalls_body Tryd.func71 rfl Tryd.ntmps71 (res0 Tryd.results71) (Nat.le_of_ble_eq_true rfl) (fun hcl hal => ?_)
  refine AWp_heap (set_same hσ) ?_
  refine AWp_seq ?_
  refine AWp_seq ?_
  -- region 0 ref.go:538
  refine AWp_regL ?_
  refine st rfl rfl rfl (op_moveO rfl rfl) ?_
  refine st rfl rfl rfl (op_nilCheck rfl rfl rfl) ?_
  refine st rfl rfl rfl (op_fieldAddrO (fo := 2) rfl Tryd.underlying93 rfl rfl Tryd.sizeOf3 (by decide) rfl trivial) ?_
  refine st rfl rfl rfl (op_load1 rfl Tryd.isAgg3 (by first | exact ldv_set hp rfl | exact ldv_setA hp rfl | exact ldv_ownS rfl rfl | exact ldv_pp rfl)) ?_
  refine st rfl rfl rfl (op_eql rfl rfl rfl) ?_
  refine AOps_nil ?_
  refine AWp_cond rfl (fun h1 => ?_) (fun h1 => ?_)
  · (try rw [h1]); (try simp only [decide_eq_true_eq, decide_eq_false_iff_not, Bool.not_eq_true', Bool.not_eq_false', Int.not_lt, Int.not_le, Bool.not_true, Bool.not_false, Int.toNat_natCast, bne_iff_ne, beq_iff_eq, beq_eq_false_iff_ne, ne_eq, Decidable.not_not] at h1)
    -- region 1 ref.go:539
    refine AWp_regL ?_
    refine st rfl rfl rfl (op_moveO rfl rfl) ?_
    refine st rfl rfl rfl (op_moveO rfl rfl) ?_
    refine st rfl rfl rfl (op_nilCheck rfl rfl rfl) ?_
    refine st rfl rfl rfl (op_fieldAddrO (fo := 1) rfl Tryd.underlying93 rfl rfl Tryd.sizeOf3 (by decide) rfl trivial) ?_
    refine st rfl rfl rfl (op_load1 rfl Tryd.isAgg3 (by first | exact ldv_set hp rfl | exact ldv_setA hp rfl | exact ldv_ownS rfl rfl | exact ldv_pp rfl)) ?_
    refine st rfl rfl rfl (op_callF rfl rfl rfl Tryd.func53 rfl rfl (callS (fail_c s (a : Int) deep bad spot p _ (get_set hp) (a : Int) 3))) ?_
    refine AOps_nil ?_
    refine AWp_seq ?_
    -- region 2 ref.go:541
    refine AWp_regL ?_
    refine st rfl rfl rfl (op_moveO rfl rfl) ?_
    refine st rfl rfl rfl (op_nilCheck rfl rfl rfl) ?_
    refine st rfl rfl rfl (op_fieldAddrO (fo := 2) rfl Tryd.underlying93 rfl rfl Tryd.sizeOf3 (by decide) rfl trivial) ?_
    refine st rfl rfl rfl (op_load1 rfl Tryd.isAgg3 (by first | exact ldv_set hp rfl | exact ldv_setA hp rfl | exact ldv_ownS rfl rfl | exact ldv_pp rfl)) ?_
    refine st rfl rfl rfl (op_add64 rfl rfl rfl (by omega) (by omega)) ?_
    refine st rfl rfl rfl (op_nilCheck rfl rfl rfl) ?_
    refine st rfl rfl rfl (op_fieldAddrO (fo := 2) rfl Tryd.underlying93 rfl rfl Tryd.sizeOf3 (by decide) rfl trivial) ?_
    refine stN rfl rfl ((by first | exact op_storeS (r := [_, _, _, _, _]) rfl Tryd.sizeOf3 rfl rfl rfl hp rfl (by decide) | exact op_storeSA (r := [_, _, _, _, _]) rfl Tryd.sizeOf3 rfl rfl rfl hp rfl (by decide) | exact op_storeOS (r := [_, _, _, _, _]) rfl Tryd.sizeOf3 rfl rfl rfl rfl rfl (by decide))) ?_
    refine AOps_nil ?_
    refine AWp_seq ?_
    -- region 3 ref.go:542
    refine AWp_regL ?_
    refine st rfl rfl rfl (op_moveO rfl rfl) ?_
    refine st rfl rfl rfl (op_nilCheck rfl rfl rfl) ?_
    refine st rfl rfl rfl (op_fieldAddrO (fo := 1) rfl Tryd.underlying93 rfl rfl Tryd.sizeOf3 (by decide) rfl trivial) ?_
    refine st rfl rfl rfl (op_load1 rfl Tryd.isAgg3 (by first | exact ldv_set hp rfl | exact ldv_setA hp rfl | exact ldv_ownS rfl rfl | exact ldv_pp rfl)) ?_
    refine st rfl rfl rfl (op_add64 rfl rfl rfl (by omega) (by omega)) ?_
    refine st rfl rfl rfl (op_nilCheck rfl rfl rfl) ?_
    refine st rfl rfl rfl (op_fieldAddrO (fo := 1) rfl Tryd.underlying93 rfl rfl Tryd.sizeOf3 (by decide) rfl trivial) ?_
    refine stN rfl rfl ((by first | exact op_storeS (r := [_, _, _, _, _]) rfl Tryd.sizeOf3 rfl rfl rfl hp rfl (by decide) | exact op_storeSA (r := [_, _, _, _, _]) rfl Tryd.sizeOf3 rfl rfl rfl hp rfl (by decide) | exact op_storeOS (r := [_, _, _, _, _]) rfl Tryd.sizeOf3 rfl rfl rfl rfl rfl (by decide))) ?_
    refine AOps_nil ?_
    -- region 4 ref.go:543
    refine AWp_regL ?_
    refine st rfl rfl rfl (op_moveO rfl rfl) ?_
    refine st rfl rfl rfl (op_callF rfl rfl rfl Tryd.func58 rfl rfl (callS (blank_c s (a + 1) (deep + 1) _ _ p _ (get_set hp) hs (by omega)))) ?_
    refine AOps_nil ?_
    (try simp only [blockQ, thenQ])
    simp only [if_pos h1]
    exact ResQ_N0 hcl (by simp [AO.cells, AV.ltL, AV.lt]) ⟨rfl, rfl⟩
  · (try rw [h1]); (try simp only [decide_eq_true_eq, decide_eq_false_iff_not, Bool.not_eq_true', Bool.not_eq_false', Int.not_lt, Int.not_le, Bool.not_true, Bool.not_false, Int.toNat_natCast, bne_iff_ne, beq_iff_eq, beq_eq_false_iff_ne, ne_eq, Decidable.not_not] at h1)
    refine AWp_skip ?_
    refine AWp_seq ?_
    -- region 2 ref.go:541
    refine AWp_regL ?_
    refine st rfl rfl rfl (op_moveO rfl rfl) ?_
    refine st rfl rfl rfl (op_nilCheck rfl rfl rfl) ?_
    refine st rfl rfl rfl (op_fieldAddrO (fo := 2) rfl Tryd.underlying93 rfl rfl Tryd.sizeOf3 (by decide) rfl trivial) ?_
    refine st rfl rfl rfl (op_load1 rfl Tryd.isAgg3 (by first | exact ldv_set hp rfl | exact ldv_setA hp rfl | exact ldv_ownS rfl rfl | exact ldv_pp rfl)) ?_
    refine st rfl rfl rfl (op_add64 rfl rfl rfl (by omega) (by omega)) ?_
    refine st rfl rfl rfl (op_nilCheck rfl rfl rfl) ?_
    refine st rfl rfl rfl (op_fieldAddrO (fo := 2) rfl Tryd.underlying93 rfl rfl Tryd.sizeOf3 (by decide) rfl trivial) ?_
    refine stN rfl rfl ((by first | exact op_storeS (r := [_, _, _, _, _]) rfl Tryd.sizeOf3 rfl rfl rfl hp rfl (by decide) | exact op_storeSA (r := [_, _, _, _, _]) rfl Tryd.sizeOf3 rfl rfl rfl hp rfl (by decide) | exact op_storeOS (r := [_, _, _, _, _]) rfl Tryd.sizeOf3 rfl rfl rfl rfl rfl (by decide))) ?_
    refine AOps_nil ?_
    refine AWp_seq ?_
    -- region 3 ref.go:542
    refine AWp_regL ?_
    refine st rfl rfl rfl (op_moveO rfl rfl) ?_
    refine st rfl rfl rfl (op_nilCheck rfl rfl rfl) ?_
    refine st rfl rfl rfl (op_fieldAddrO (fo := 1) rfl Tryd.underlying93 rfl rfl Tryd.sizeOf3 (by decide) rfl trivial) ?_
    refine st rfl rfl rfl (op_load1 rfl Tryd.isAgg3 (by first | exact ldv_set hp rfl | exact ldv_setA hp rfl | exact ldv_ownS rfl rfl | exact ldv_pp rfl)) ?_
    refine st rfl rfl rfl (op_add64 rfl rfl rfl (by omega) (by omega)) ?_
    refine st rfl rfl rfl (op_nilCheck rfl rfl rfl) ?_
    refine st rfl rfl rfl (op_fieldAddrO (fo := 1) rfl Tryd.underlying93 rfl rfl Tryd.sizeOf3 (by decide) rfl trivial) ?_
    refine stN rfl rfl ((by first | exact op_storeS (r := [_, _, _, _, _]) rfl Tryd.sizeOf3 rfl rfl rfl hp rfl (by decide) | exact op_storeSA (r := [_, _, _, _, _]) rfl Tryd.sizeOf3 rfl rfl rfl hp rfl (by decide) | exact op_storeOS (r := [_, _, _, _, _]) rfl Tryd.sizeOf3 rfl rfl rfl rfl rfl (by decide))) ?_
    refine AOps_nil ?_
    -- region 4 ref.go:543
    refine AWp_regL ?_
    refine st rfl rfl rfl (op_moveO rfl rfl) ?_
    refine st rfl rfl rfl (op_callF rfl rfl rfl Tryd.func58 rfl rfl (callS (blank_c s (a + 1) (deep + 1) _ _ p _ (get_set hp) hs (by omega)))) ?_
    refine AOps_nil ?_
    (try simp only [blockQ, thenQ])
    simp only [if_neg h1]
    exact ResQ_N0 hcl (by simp [AO.cells, AV.ltL, AV.lt]) ⟨rfl, rfl⟩

end Lg
namespace Lg
open Go Go.RowKit
variable [GLay]
variable {P : Program} {N : Nat} {σ l : List AO} {e : Env} {Q : QA} {p : Nat} {x : AO}
/-- A box of the call's own, taken for something as good. -/
theorem AWp_boxLe {c : Code} (q : Nat) {bs bs' : List AV} (hq : σ[q]? = some (.box bs)) (hle : AVleL bs bs') (k : AWp P N c e (σ.set q (.box bs')) Q) : AWp P N c e σ Q := fun s0 s a hs g x he => by
  subst hs
  have hlive : s.live q := by unfold CS.live; rw [hq]; trivial
  obtain ⟨_, vs, T, hb, hp⟩ := g.rep hq hlive
  have hp : PW s bs vs := hp
  have hnew : PW s bs' vs := hle.pw hp
  obtain ⟨s2, f1, f2, g2, x2, _⟩ := g.setObj hq hlive (o' := .box bs') (.box _ _ hle.len) trivial hnew
  have hw : s2.w = s.w := by rw [f2, setRow_self _ _ _ _ _ hb]
  have := k s0 s2 a f1 g2 (x.trans x2) (he.mono g x2)
  rwa [hw] at this
/-- A nil slice in a cell of a box of the call's own becomes a slice of an array of no block. -/
theorem AWp_ghostIn {c : Code} (q i sz : Nat) {bs : List AV} (hq : σ[q]? = some (.box bs)) (hi : bs[i]? = some .nils) (k : AWp P N c e ((σ ++ [AO.arr sz 0 []]).set q (.box (bs.set i (.arr σ.length 0 sz 0 0)))) Q) : AWp P N c e σ Q := fun s0 s a hs g x he => by
  subst hs
  obtain ⟨s1, e1, e2, g1, x1⟩ := g.ghost sz
  have hqlt : q < s.σ.length := (List.getElem?_eq_some_iff.1 hq).1
  have hq1 : s1.σ[q]? = some (.box bs) := by rw [e1, List.getElem?_append_left hqlt]; exact hq
  have hlive1 : s1.live q := by unfold CS.live; rw [hq1]; trivial
  obtain ⟨_, vs, T, hb, hp⟩ := g1.rep hq1 hlive1
  have hp : PW s1 bs vs := hp
  obtain ⟨v, hv1, hv2⟩ := hp.get hi
  have hv0 := hv2.inv_nils
  have hv' : V s1 (.arr s.σ.length 0 sz 0 0) v := by
    rw [hv0]; exact .arr _ _ _ _ _ _ rfl (.mk (cs := []) (by rw [e1]; simp) ⟨rfl, .inl ⟨none, rfl, rfl⟩⟩)
  have hset : vs.set i v = vs := by
    obtain ⟨h1, h2⟩ := List.getElem?_eq_some_iff.1 hv1
    rw [← h2]; exact List.set_getElem_self h1
  have hnew : PW s1 (bs.set i (.arr s.σ.length 0 sz 0 0)) vs := by
    have := hp.set i hv'
    rwa [hset] at this
  obtain ⟨s2, f1, f2, g2, x2, _⟩ := g1.setObj hq1 hlive1 (o' := .box (bs.set i (.arr s.σ.length 0 sz 0 0))) (.box _ _ (by simp)) trivial hnew
  have hw : s2.w = s.w := by rw [f2, ← e2, setRow_self _ _ _ _ _ hb]
  have := k s0 s2 a (by rw [f1, e1]) g2 ((x.trans x1).trans x2) ((he.mono g x1).mono g1 x2)
  rwa [hw] at this
theorem set_ownS (k : Nat) (y : AO) : (σ.set p x ++ l).set (σ.length + k) y = σ.set p x ++ l.set k y := by
  rw [List.set_append_right _ _ (by simp), List.length_set, Nat.add_sub_cancel_left]
theorem AWp_boxLeS {c : Code} (k : Nat) {bs bs' : List AV} (hq : l[k]? = some (.box bs)) (hle : AVleL bs bs') (h : AWp P N c e (σ.set p x ++ l.set k (.box bs')) Q) : AWp P N c e (σ.set p x ++ l) Q :=
  AWp_boxLe (σ.length + k) (by rw [get_ownS]; exact hq) hle (by rw [set_ownS]; exact h)
theorem AWp_ghostInS {c : Code} (k i sz n : Nat) (hn : l.length = n) {bs : List AV} (hq : l[k]? = some (.box bs)) (hi : bs[i]? = some .nils) (h : AWp P N c e (σ.set p x ++ (l ++ [AO.arr sz 0 []]).set k (.box (bs.set i (.arr (σ.length + n) 0 sz 0 0)))) Q) : AWp P N c e (σ.set p x ++ l) Q :=
  AWp_ghostIn (σ.length + k) i sz (by rw [get_ownS]; exact hq) hi (by
    have e1 : (σ.set p x ++ l).length = σ.length + n := by simp [hn]
    rw [e1, List.append_assoc, set_ownS]; exact h)
theorem AWp_freezeInS {c : Code} (kq i kp gg sz off len : Nat) {bs cs : List AV} (hq : l[kq]? = some (.box bs)) (hi : bs[i]? = some (.arr (σ.length + kp) gg sz off len)) (hσ : l[kp]? = some (.arr sz gg cs)) (es : List (List AV)) (hes : es.flatten = (cs.drop (off * sz)).take (len * sz))
    (hel : ∀ r ∈ es, r.length = sz) (hlen : es.length = len) (hsz : sz ≠ 0) (hfit : (off + len) * sz ≤ cs.length) (k : AWp P N c e (σ.set p x ++ (l.set kp .dead).set kq (.box (bs.set i (.sl false sz es)))) Q) : AWp P N c e (σ.set p x ++ l) Q :=
  AWp_freezeIn (σ.length + kq) i (σ.length + kp) gg sz off len (by rw [get_ownS]; exact hq) hi (by rw [get_ownS]; exact hσ) es hes hel hlen hsz hfit (by
    rw [set_ownS, set_ownS]; exact k)
/-- Results in cells, behind a caller's object that was written. -/
theorem RQ_retS {el : List (Nat × AV)} {ks : List RK} {vs : List AV} {R : Out → List AO → Prop} (h : rkvs (σ.set p x ++ l) ⟨[], el⟩ ks = some vs) (hc : closed σ.length σ) (hx : AV.ltL σ.length x.cells) (hv : (rks vs).lt σ.length) (hR : R (.ret (rks vs)) (σ.set p x)) : RQ σ.length ks R .ret ⟨[], el⟩ (σ.set p x ++ l) :=
  ⟨rfl, vs, σ.length, h, Nat.le_refl _, closedS hc hx, hv, by rw [takeS]; exact hR⟩
theorem rkv_ckS {el : List (Nat × AV)} {a n k off : Nat} {cs r : List AV} (h : lookO el a = some (.ptr (σ.length + k) off)) (h1 : l[k]? = some (.box cs)) (h2 : tk n (cs.drop off) = some r) : rkv (σ.set p x ++ l) ⟨[], el⟩ (.ck a n) = some (.agg r) := by
  simp only [rkv, Env.look, lookO_eq h, ldv_ownS h1 h2, Option.map_some]
theorem rkv_c1S {el : List (Nat × AV)} {a k off : Nat} {cs : List AV} {c : AV} (h : lookO el a = some (.ptr (σ.length + k) off)) (h1 : l[k]? = some (.box cs)) (h2 : tk 1 (cs.drop off) = some [c]) : rkv (σ.set p x ++ l) ⟨[], el⟩ (.c1 a) = some c := by
  simp only [rkv, Env.look, lookO_eq h, ldv_ownS h1 h2]
end Lg
namespace Lg
open Go
/-! ### The reference's reader, plainly -/
theorem wrapu8_in {n : Int} (h0 : 0 ≤ n) (h1 : n < 256) : IntKind.u8.wrap n = n := by
  simp only [IntKind.wrap, IntKind.bits, IntKind.signed]
  have : (2 : Int) ^ 8 = 256 := by decide
  simp only [this]
  first | omega | (simp; omega)
theorem tn1 (n : Nat) : ((n : Int) + 1).toNat = n + 1 := by omega
theorem tn2 (n : Nat) : ((n : Int) + 2).toNat = n + 2 := by omega
theorem tn6 (n : Nat) : ((n : Int) + 6).toNat = n + 6 := by omega
theorem tm1 (n : Nat) : ((n : Int) - 1).toNat = n - 1 := by omega
theorem tnn (n m : Nat) : ((n : Int) + (m : Int)).toNat = n + m := by omega
def e0 : ByteArray := ⟨#[]⟩
def eSign (s : ByteArray) (a : Nat) : Nat := if a < s.size ∧ (bat s a).toNat = 45 then a + 1 else a
def eSg (s : ByteArray) (i : Nat) : Nat := if i < s.size ∧ ((bat s i).toNat = 43 ∨ (bat s i).toNat = 45) then i + 1 else i
def ePow (s : ByteArray) (i : Nat) : Nat × Bool :=
  if i < s.size ∧ ((bat s i).toNat = 101 ∨ (bat s i).toNat = 69) then (if runl s (eSg s (i + 1)) = 0 then (eSg s (i + 1), false) else (eSg s (i + 1) + runl s (eSg s (i + 1)), true)) else (i, true)
def eFrac (s : ByteArray) (i : Nat) : Nat × Bool :=
  if i < s.size ∧ (bat s i).toNat = 46 then (if runl s (i + 1) = 0 then (i + 1, false) else ePow s (i + 1 + runl s (i + 1))) else ePow s i
def eInt (s : ByteArray) (i : Nat) : Nat := if (bat s i).toNat = 48 then 1 else runl s i
/-- Where a number's text ends, and whether it is one. -/
def rEnd (s : ByteArray) (a : Nat) : Nat × Bool := if runl s (eSign s a) = 0 then (eSign s a, false) else eFrac s (eSign s a + eInt s (eSign s a))
theorem runl_le' (s : ByteArray) {i : Nat} (h : i ≤ s.size) : i + runl s i ≤ s.size := by have := runl_le s i; omega
theorem eSign_le {s : ByteArray} {a : Nat} (h : a ≤ s.size) : a ≤ eSign s a ∧ eSign s a ≤ s.size := by unfold eSign; split <;> omega
theorem eSg_le {s : ByteArray} {a : Nat} (h : a ≤ s.size) : a ≤ eSg s a ∧ eSg s a ≤ s.size := by unfold eSg; split <;> omega
theorem eInt_le {s : ByteArray} {i : Nat} (h : i ≤ s.size) (h0 : ¬ runl s i = 0) : 1 ≤ eInt s i ∧ i + eInt s i ≤ s.size := by
  have := runl_le s i
  unfold eInt; split <;> omega
theorem ePow_le {s : ByteArray} {i : Nat} (h : i ≤ s.size) : i ≤ (ePow s i).1 ∧ (ePow s i).1 ≤ s.size := by
  unfold ePow
  split
  · rename_i h1
    have h2 := eSg_le (s := s) (a := i + 1) (by omega)
    have h3 := runl_le s (eSg s (i + 1))
    split <;> (try dsimp only) <;> omega
  · dsimp only; omega
theorem eFrac_le {s : ByteArray} {i : Nat} (h : i ≤ s.size) : i ≤ (eFrac s i).1 ∧ (eFrac s i).1 ≤ s.size := by
  unfold eFrac
  split
  · rename_i h1
    have h3 := runl_le s (i + 1)
    have h4 := ePow_le (s := s) (i := i + 1 + runl s (i + 1)) (by omega)
    split <;> (try dsimp only) <;> omega
  · exact ePow_le h
theorem rEnd_le {s : ByteArray} {a : Nat} (h : a ≤ s.size) : a ≤ (rEnd s a).1 ∧ (rEnd s a).1 ≤ s.size := by
  unfold rEnd
  have h1 := eSign_le (s := s) h
  split
  · exact h1
  · rename_i h2
    have h3 := eInt_le h1.2 h2
    have h4 := eFrac_le (s := s) (i := eSign s a + eInt s (eSign s a)) (by omega)
    omega
/-! ### Text in quotes -/
def hd1 (c : Nat) : Int := if 48 ≤ c ∧ c ≤ 57 then (c : Int) - 48 else -1
def hd2 (c : Nat) : Int := if 65 ≤ c ∧ c ≤ 70 then (c : Int) - 55 else hd1 c
def hexd (c : Nat) : Int := if 97 ≤ c ∧ c ≤ 102 then (c : Int) - 87 else hd2 c
theorem hexd_lt (c : Nat) : -1 ≤ hexd c ∧ hexd c ≤ 15 := by unfold hexd hd2 hd1; repeat' split
                                                            all_goals omega
def hexF (s : ByteArray) (i e : Nat) (v : Int) : Int × Int :=
  if i < e then (if s.size ≤ i then (0, (i : Int)) else if hexd (bat s i).toNat < 0 then (0, (i : Int)) else hexF s (i + 1) e (16 * v + hexd (bat s i).toNat)) else (v, -1)
termination_by e - i
def rhex (s : ByteArray) (a : Nat) : Int × Int := hexF s a (a + 4) 0
theorem hexF_ok (s : ByteArray) (e : Nat) : ∀ (k i : Nat) (v B : Int), e = i + k → 0 ≤ v → v < B → ((hexF s i e v).2 = -1 ∧ (k = 0 ∨ e ≤ s.size) ∧ 0 ≤ (hexF s i e v).1 ∧ (hexF s i e v).1 < B * 16 ^ k) ∨ ((hexF s i e v).1 = 0 ∧ (i : Int) ≤ (hexF s i e v).2 ∧ (hexF s i e v).2 < e ∧ (i ≤ s.size → (hexF s i e v).2 ≤ s.size)) := by
  intro k
  induction k with
  | zero => intro i v B hk h0 h1; rw [hexF, if_neg (by omega)]; left; refine ⟨rfl, by omega, h0, ?_⟩; simpa using h1
  | succ k ih =>
    intro i v B hk h0 h1
    rw [hexF, if_pos (by omega)]
    have hd := hexd_lt (bat s i).toNat
    split
    · right; exact ⟨rfl, Int.le_refl _, by dsimp only; omega, fun h => by dsimp only; omega⟩
    · split
      · right; exact ⟨rfl, Int.le_refl _, by dsimp only; omega, fun h => by dsimp only; omega⟩
      · rename_i h2 h3
        have h5 : B * 16 * 16 ^ k = B * 16 ^ (k + 1) := by rw [Int.pow_succ', Int.mul_assoc]
        rcases ih (i + 1) (16 * v + hexd (bat s i).toNat) (B * 16) (by omega) (by omega) (by omega) with ⟨q1, q2, q3, q4⟩ | ⟨q1, q2, q3, q4⟩
        · left; exact ⟨q1, by omega, q3, by omega⟩
        · right; exact ⟨q1, by omega, q3, by omega⟩
theorem rhex_ok (s : ByteArray) (a : Nat) : ((rhex s a).2 = -1 ∧ a + 4 ≤ s.size ∧ 0 ≤ (rhex s a).1 ∧ (rhex s a).1 < 65536) ∨ ((rhex s a).1 = 0 ∧ (a : Int) ≤ (rhex s a).2 ∧ (rhex s a).2 < a + 4 ∧ (a ≤ s.size → (rhex s a).2 ≤ s.size)) := by
  have := hexF_ok s (a + 4) 4 a 0 1 rfl (by decide) (by decide)
  unfold rhex
  simp only [Int.one_mul] at this
  rcases this with ⟨q1, q2, q3, q4⟩ | ⟨q1, q2, q3, q4⟩
  · left; exact ⟨q1, by omega, q3, by simpa using q4⟩
  · right; exact ⟨q1, q2, by omega, q4⟩
def rlow (s : ByteArray) (a : Nat) : Int :=
  if s.size < a + 6 then -1 else if ¬ (bat s a).toNat = 92 ∨ ¬ (bat s (a + 1)).toNat = 117 then -1 else
  if 0 ≤ (rhex s (a + 2)).2 ∨ (rhex s (a + 2)).1 < 56320 ∨ 57344 ≤ (rhex s (a + 2)).1 then -1 else (rhex s (a + 2)).1
theorem rlow_ok (s : ByteArray) (a : Nat) : rlow s a = -1 ∨ (a + 6 ≤ s.size ∧ 56320 ≤ rlow s a ∧ rlow s a < 57344) := by
  unfold rlow
  repeat' split
  all_goals omega
def u8b (n : Int) : UInt8 := UInt8.ofNat n.toNat
def rchar (v : Int) : ByteArray :=
  if v < 128 then ⟨#[u8b v]⟩ else
  if v < 2048 then ⟨#[u8b (192 + v / 64), u8b (128 + v % 64)]⟩ else
  if v < 65536 then ⟨#[u8b (224 + v / 4096), u8b (128 + v / 64 % 64), u8b (128 + v % 64)]⟩ else
  ⟨#[u8b (240 + v / 262144), u8b (128 + v / 4096 % 64), u8b (128 + v / 64 % 64), u8b (128 + v % 64)]⟩
theorem rchar_size (v : Int) : 1 ≤ (rchar v).size ∧ (rchar v).size ≤ 4 := by
  unfold rchar
  repeat' split
  all_goals exact ⟨Nat.le_of_ble_eq_true rfl, Nat.le_of_ble_eq_true rfl⟩
theorem u8b_toNat {n : Int} (h0 : 0 ≤ n) (h1 : n < 256) : ((u8b n).toNat : Int) = n := by
  unfold u8b
  rw [UInt8.toNat_ofNat']
  omega
section
variable [GLay] {σ : List AO}
theorem bs1 {a : Int} (ha : 0 ≤ a ∧ a < 256) : srcv σ (.sl true 1 [[.int .u8 a]]) = some (bcells ⟨#[u8b a]⟩, 1) := by
  simp [srcv, bcells, u8b_toNat ha.1 ha.2]
theorem bs2 {a b : Int} (ha : 0 ≤ a ∧ a < 256) (hb : 0 ≤ b ∧ b < 256) : srcv σ (.sl true 1 [[.int .u8 a], [.int .u8 b]]) = some (bcells ⟨#[u8b a, u8b b]⟩, 2) := by
  simp [srcv, bcells, u8b_toNat ha.1 ha.2, u8b_toNat hb.1 hb.2]
theorem bs3 {a b c : Int} (ha : 0 ≤ a ∧ a < 256) (hb : 0 ≤ b ∧ b < 256) (hc : 0 ≤ c ∧ c < 256) : srcv σ (.sl true 1 [[.int .u8 a], [.int .u8 b], [.int .u8 c]]) = some (bcells ⟨#[u8b a, u8b b, u8b c]⟩, 3) := by
  simp [srcv, bcells, u8b_toNat ha.1 ha.2, u8b_toNat hb.1 hb.2, u8b_toNat hc.1 hc.2]
theorem bs4 {a b c d : Int} (ha : 0 ≤ a ∧ a < 256) (hb : 0 ≤ b ∧ b < 256) (hc : 0 ≤ c ∧ c < 256) (hd : 0 ≤ d ∧ d < 256) : srcv σ (.sl true 1 [[.int .u8 a], [.int .u8 b], [.int .u8 c], [.int .u8 d]]) = some (bcells ⟨#[u8b a, u8b b, u8b c, u8b d]⟩, 4) := by
  simp [srcv, bcells, u8b_toNat ha.1 ha.2, u8b_toNat hb.1 hb.2, u8b_toNat hc.1 hc.2, u8b_toNat hd.1 hd.2]
end
/-- What stands behind a backslash. -/
def escL : List (Nat × Nat) := [(34, 34), (92, 92), (47, 47), (98, 8), (102, 12), (110, 10), (114, 13), (116, 9)]
def esc (c : Nat) : Option Nat := (escL.find? fun q => decide (q.1 = c)).map (·.2)
structure UR where
  s : ByteArray
  n : Int
  bad : Int
  at_ : Int
def unqF (s : ByteArray) (a i : Nat) (out : ByteArray) : UR :=
  if h : i < s.size then
    if (bat s i).toNat = 34 then ⟨out, (i : Int) + 1 - a, 0, 0⟩ else
    if (bat s i).toNat < 32 then ⟨e0, 0, 1, i⟩ else
    if ¬ (bat s i).toNat = 92 then
      if hu : u8 s i = 0 then ⟨e0, 0, 2, i⟩ else unqF s a (i + u8 s i) (out ++ s.extract i (i + u8 s i))
    else if i + 1 = s.size then ⟨e0, 0, 1, s.size⟩ else
    if (bat s (i + 1)).toNat = 117 then
      if 0 ≤ (rhex s (i + 2)).2 then ⟨e0, 0, 1, (rhex s (i + 2)).2⟩ else
      if 55296 ≤ (rhex s (i + 2)).1 ∧ (rhex s (i + 2)).1 < 56320 ∧ 0 ≤ rlow s (i + 6) then unqF s a (i + 12) (out ++ rchar (65536 + 1024 * ((rhex s (i + 2)).1 - 55296) + rlow s (i + 6) - 56320)) else
      if 55296 ≤ (rhex s (i + 2)).1 ∧ (rhex s (i + 2)).1 < 57344 then ⟨e0, 0, 2, i⟩ else unqF s a (i + 6) (out ++ rchar (rhex s (i + 2)).1)
    else match esc (bat s (i + 1)).toNat with
      | none => ⟨e0, 0, 1, (i : Int) + 1⟩
      | some b => unqF s a (i + 2) (out ++ ⟨#[UInt8.ofNat b]⟩)
  else ⟨e0, 0, 1, s.size⟩
termination_by s.size - i
/-- The text in quotes. -/
def rUnq (s : ByteArray) (a : Int) : UR := if a < 0 ∨ (s.size : Int) ≤ a then ⟨e0, 0, 1, a⟩ else if ¬ (bat s a.toNat).toNat = 34 then ⟨e0, 0, 1, a⟩ else unqF s a.toNat (a.toNat + 1) e0
end Lg
set_option maxRecDepth 20000
set_option maxHeartbeats 4000000
namespace Lg
open Go Go.Proofs Go.RowKit
variable [GLay] 


theorem run_n (s : ByteArray) (a : Nat) (σ : List AO) (hs : s.size ≤ 1000000) (ha : a ≤ 1000000) : ACalls Tryd.prog 51 [.str s, .int .i64 (a : Int)] σ (Ret (.int .i64 (runl s a : Int)) σ) := by
  have := run_c s (a : Int) σ (by omega) (by omega) (by omega)
  simpa using this
theorem end_c (s : ByteArray) (a : Nat) (σ : List AO) (hs : s.size ≤ 1000000) (ha : a ≤ s.size) : ACalls Tryd.prog 64 [.str s, .int .i64 (a : Int)] σ (Ret (.tup [.int .i64 ((rEnd s a).1 : Int), .bool (rEnd s a).2]) σ) := by
  refine ACalls_body Tryd.func64 rfl Tryd.ntmps64 (res2 Tryd.results64) (Nat.le_of_ble_eq_true rfl) (fun hcl hal => ?_)
  have hi1 := eSign_le ha
  have hr1 := runl_le s (eSign s a)
  refine AWp_seq ?_
  -- region 0 ref.go:16
  refine AWp_regL ?_
  refine st rfl rfl rfl (op_assignO rfl rfl) ?_
  refine st rfl rfl rfl (op_assignO rfl rfl) ?_
  refine AOps_nil ?_
  refine AWp_seq ?_
  -- region 1 ref.go:17
  refine AWp_regL ?_
  refine st rfl rfl rfl (op_moveO rfl rfl) ?_
  refine st rfl rfl rfl (op_assignO rfl rfl) ?_
  refine AOps_nil ?_
  refine AWp_join (ι := Unit) (fun b => True) (fun b => ⟨[], [(0, .str s), (6, .int .i64 (eSign s a : Int))]⟩) (fun b => σ) ?_ (fun b hj => ?_)
  · skip
    refine AWp_seq ?_
    -- region 2 ref.go:18
    refine AWp_regL ?_
    refine st rfl rfl rfl (op_moveO rfl rfl) ?_
    refine st rfl rfl rfl (op_moveO rfl rfl) ?_
    refine st rfl rfl rfl (op_lenStr rfl rfl Tryd.underlying9 rfl) ?_
    refine st rfl rfl rfl (op_lss rfl rfl rfl) ?_
    refine st rfl rfl rfl (op_moveO rfl rfl) ?_
    refine AOps_split 13 rfl (fun h1 => ?_) (fun h1 => ?_)
    · rw [h1]; (try simp only [decide_eq_true_eq, decide_eq_false_iff_not, Bool.not_eq_true', Bool.not_eq_false', Int.not_lt, Int.not_le, Bool.not_true, Bool.not_false, Int.toNat_natCast, tn1, tn2, tnn, bne_iff_ne, beq_iff_eq, beq_eq_false_iff_ne, ne_eq, Decidable.not_not] at h1)
      refine stG rfl rfl rfl rfl rfl rfl (op_moveO rfl rfl) ?_
      refine stG rfl rfl rfl rfl rfl rfl (op_moveO rfl rfl) ?_
      refine stG rfl rfl rfl rfl rfl rfl (op_index_strB rfl Tryd.underlying9 rfl rfl (by omega) (by omega)) ?_
      refine stG rfl rfl rfl rfl rfl rfl (op_eql rfl rfl rfl) ?_
      refine st rfl rfl rfl (op_pickTO rfl rfl rfl) ?_
      refine AOps_nil ?_
      refine AWp_cond rfl (fun h2 => ?_) (fun h2 => ?_)
      · (try rw [h2]); (try simp only [decide_eq_true_eq, decide_eq_false_iff_not, Bool.not_eq_true', Bool.not_eq_false', Int.not_lt, Int.not_le, Bool.not_true, Bool.not_false, Int.toNat_natCast, tn1, tn2, tnn, bne_iff_ne, beq_iff_eq, beq_eq_false_iff_ne, ne_eq, Decidable.not_not] at h2)
        -- region 3 ref.go:19
        refine AWp_regL ?_
        refine st rfl rfl rfl (op_moveO rfl rfl) ?_
        refine st rfl rfl rfl (op_add64 rfl rfl rfl (by omega) (by omega)) ?_
        refine st rfl rfl rfl (op_assignO rfl rfl) ?_
        refine AOps_nil ?_
        refine ⟨(), trivial, ⟨rfl, rfl, ?_, trivial⟩, rfl⟩
        unfold eSign; first | (rw [if_pos (by omega)]; rfl) | (rw [if_neg (by omega)]; rfl)
      · (try rw [h2]); (try simp only [decide_eq_true_eq, decide_eq_false_iff_not, Bool.not_eq_true', Bool.not_eq_false', Int.not_lt, Int.not_le, Bool.not_true, Bool.not_false, Int.toNat_natCast, tn1, tn2, tnn, bne_iff_ne, beq_iff_eq, beq_eq_false_iff_ne, ne_eq, Decidable.not_not] at h2)
        refine AWp_skip ?_
        refine ⟨(), trivial, ⟨rfl, rfl, ?_, trivial⟩, rfl⟩
        unfold eSign; first | (rw [if_pos (by omega)]; rfl) | (rw [if_neg (by omega)]; rfl)
    · rw [h1]; (try simp only [decide_eq_true_eq, decide_eq_false_iff_not, Bool.not_eq_true', Bool.not_eq_false', Int.not_lt, Int.not_le, Bool.not_true, Bool.not_false, Int.toNat_natCast, tn1, tn2, tnn, bne_iff_ne, beq_iff_eq, beq_eq_false_iff_ne, ne_eq, Decidable.not_not] at h1)
      refine stS rfl rfl rfl (.inl rfl) rfl rfl ?_
      refine stS rfl rfl rfl (.inl rfl) rfl rfl ?_
      refine stS rfl rfl rfl (.inl rfl) rfl rfl ?_
      refine stS rfl rfl rfl (.inl rfl) rfl rfl ?_
      refine st rfl rfl rfl (op_pickFO rfl rfl rfl) ?_
      refine AOps_nil ?_
      refine AWp_condF rfl ?_
      refine AWp_skip ?_
      refine ⟨(), trivial, ⟨rfl, rfl, ?_, trivial⟩, rfl⟩
      unfold eSign; first | (rw [if_pos (by omega)]; rfl) | (rw [if_neg (by omega)]; rfl)
  · skip
    refine AWp_seq ?_
    -- region 4 ref.go:21
    refine AWp_regL ?_
    refine st rfl rfl rfl (op_moveO rfl rfl) ?_
    refine st rfl rfl rfl (op_moveO rfl rfl) ?_
    refine st rfl rfl rfl (op_callF rfl rfl rfl Tryd.func51 rfl rfl (run_n s (eSign s a) _ hs (by omega))) ?_
    refine st rfl rfl rfl (op_assignO rfl rfl) ?_
    refine AOps_nil ?_
    refine AWp_seq ?_
    refine AWp_seq ?_
    -- region 5 ref.go:22
    refine AWp_regL ?_
    refine st rfl rfl rfl (op_moveO rfl rfl) ?_
    refine st rfl rfl rfl (op_eql rfl rfl rfl) ?_
    refine AOps_nil ?_
    refine AWp_cond rfl (fun h3 => ?_) (fun h3 => ?_)
    · (try rw [h3]); (try simp only [decide_eq_true_eq, decide_eq_false_iff_not, Bool.not_eq_true', Bool.not_eq_false', Int.not_lt, Int.not_le, Bool.not_true, Bool.not_false, Int.toNat_natCast, tn1, tn2, tnn, bne_iff_ne, beq_iff_eq, beq_eq_false_iff_ne, ne_eq, Decidable.not_not] at h3)
      refine AWp_seq ?_
      -- region 6 ref.go:23
      refine AWp_regL ?_
      refine st rfl rfl rfl (op_moveO rfl rfl) ?_
      refine st rfl rfl rfl (op_assignO rfl rfl) ?_
      refine st rfl rfl rfl (op_assignO rfl rfl) ?_
      refine AOps_nil ?_
      refine AWp_ret ?_
      (try simp only [blockQ, thenQ])
      have hE : rEnd s a = (eSign s a, false) := by unfold rEnd; rw [if_pos (by omega)]
      rw [hE]; exact ResQ_20 rfl rfl hcl (by simp [AV.lt, AV.ltL]) (Ret_of rfl)
    · (try rw [h3]); (try simp only [decide_eq_true_eq, decide_eq_false_iff_not, Bool.not_eq_true', Bool.not_eq_false', Int.not_lt, Int.not_le, Bool.not_true, Bool.not_false, Int.toNat_natCast, tn1, tn2, tnn, bne_iff_ne, beq_iff_eq, beq_eq_false_iff_ne, ne_eq, Decidable.not_not] at h3)
      refine AWp_skip ?_
      refine AWp_join (ι := Unit) (fun b => True) (fun b => ⟨[], [(0, .str s), (6, .int .i64 (eSign s a : Int)), (7, .int .i64 (eInt s (eSign s a) : Int))]⟩) (fun b => σ) ?_ (fun b hj => ?_)
      · skip
        refine AWp_seq ?_
        -- region 7 ref.go:25
        refine AWp_regL ?_
        refine st rfl rfl rfl (op_moveO rfl rfl) ?_
        refine st rfl rfl rfl (op_moveO rfl rfl) ?_
        refine st rfl rfl rfl (op_index_strB rfl Tryd.underlying9 rfl rfl (by omega) (by omega)) ?_
        refine st rfl rfl rfl (op_eql rfl rfl rfl) ?_
        refine AOps_nil ?_
        refine AWp_cond rfl (fun h4 => ?_) (fun h4 => ?_)
        · (try rw [h4]); (try simp only [decide_eq_true_eq, decide_eq_false_iff_not, Bool.not_eq_true', Bool.not_eq_false', Int.not_lt, Int.not_le, Bool.not_true, Bool.not_false, Int.toNat_natCast, tn1, tn2, tnn, bne_iff_ne, beq_iff_eq, beq_eq_false_iff_ne, ne_eq, Decidable.not_not] at h4)
          -- region 8 ref.go:26
          refine AWp_regL ?_
          refine st rfl rfl rfl (op_assignO rfl rfl) ?_
          refine AOps_nil ?_
          refine ⟨(), trivial, ⟨rfl, rfl, rfl, ?_, trivial⟩, rfl⟩
          unfold eInt; first | (rw [if_pos (by omega)]; rfl) | (rw [if_neg (by omega)]; rfl)
        · (try rw [h4]); (try simp only [decide_eq_true_eq, decide_eq_false_iff_not, Bool.not_eq_true', Bool.not_eq_false', Int.not_lt, Int.not_le, Bool.not_true, Bool.not_false, Int.toNat_natCast, tn1, tn2, tnn, bne_iff_ne, beq_iff_eq, beq_eq_false_iff_ne, ne_eq, Decidable.not_not] at h4)
          refine AWp_skip ?_
          refine ⟨(), trivial, ⟨rfl, rfl, rfl, ?_, trivial⟩, rfl⟩
          unfold eInt; first | (rw [if_pos (by omega)]; rfl) | (rw [if_neg (by omega)]; rfl)
      · skip
        have hi2 := eInt_le hi1.2 (by omega)
        have hE : rEnd s a = eFrac s (eSign s a + eInt s (eSign s a)) := by unfold rEnd; rw [if_neg (by omega)]
        generalize hk : (eSign s a + eInt s (eSign s a)) = k at hE
        have hr2 := runl_le s (k + 1)
        refine AWp_seq ?_
        -- region 9 ref.go:28
        refine AWp_regL ?_
        refine st rfl rfl rfl (op_moveO rfl rfl) ?_
        refine st rfl rfl rfl (op_moveO rfl rfl) ?_
        refine st rfl rfl rfl (op_add64 rfl rfl rfl (by omega) (by omega)) ?_
        rw [← Int.natCast_add, hk]
        refine st rfl rfl rfl (op_assignO rfl rfl) ?_
        refine AOps_nil ?_
        refine AWp_join (ι := Nat) (fun j => rEnd s a = ePow s j ∧ j ≤ s.size) (fun j => ⟨[], [(0, .str s), (6, .int .i64 (j : Int))]⟩) (fun j => σ) ?_ (fun j hj => ?_)
        · skip
          refine AWp_seq ?_
          -- region 10 ref.go:29
          refine AWp_regL ?_
          refine st rfl rfl rfl (op_moveO rfl rfl) ?_
          refine st rfl rfl rfl (op_moveO rfl rfl) ?_
          refine st rfl rfl rfl (op_lenStr rfl rfl Tryd.underlying9 rfl) ?_
          refine st rfl rfl rfl (op_lss rfl rfl rfl) ?_
          refine st rfl rfl rfl (op_moveO rfl rfl) ?_
          refine AOps_split 38 rfl (fun h5 => ?_) (fun h5 => ?_)
          · rw [h5]; (try simp only [decide_eq_true_eq, decide_eq_false_iff_not, Bool.not_eq_true', Bool.not_eq_false', Int.not_lt, Int.not_le, Bool.not_true, Bool.not_false, Int.toNat_natCast, tn1, tn2, tnn, bne_iff_ne, beq_iff_eq, beq_eq_false_iff_ne, ne_eq, Decidable.not_not] at h5)
            refine stG rfl rfl rfl rfl rfl rfl (op_moveO rfl rfl) ?_
            refine stG rfl rfl rfl rfl rfl rfl (op_moveO rfl rfl) ?_
            refine stG rfl rfl rfl rfl rfl rfl (op_index_strB rfl Tryd.underlying9 rfl rfl (by omega) (by omega)) ?_
            refine stG rfl rfl rfl rfl rfl rfl (op_eql rfl rfl rfl) ?_
            refine st rfl rfl rfl (op_pickTO rfl rfl rfl) ?_
            refine AOps_nil ?_
            refine AWp_cond rfl (fun h6 => ?_) (fun h6 => ?_)
            · (try rw [h6]); (try simp only [decide_eq_true_eq, decide_eq_false_iff_not, Bool.not_eq_true', Bool.not_eq_false', Int.not_lt, Int.not_le, Bool.not_true, Bool.not_false, Int.toNat_natCast, tn1, tn2, tnn, bne_iff_ne, beq_iff_eq, beq_eq_false_iff_ne, ne_eq, Decidable.not_not] at h6)
              refine AWp_seq ?_
              -- region 11 ref.go:30
              refine AWp_regL ?_
              refine st rfl rfl rfl (op_moveO rfl rfl) ?_
              refine st rfl rfl rfl (op_moveO rfl rfl) ?_
              refine st rfl rfl rfl (op_add64 rfl rfl rfl (by omega) (by omega)) ?_
              refine st rfl rfl rfl (op_callF rfl rfl rfl Tryd.func51 rfl rfl (run_n s (k + 1) _ hs (by omega))) ?_
              refine st rfl rfl rfl (op_assignO rfl rfl) ?_
              refine AOps_nil ?_
              refine AWp_seq ?_
              -- region 12 ref.go:31
              refine AWp_regL ?_
              refine st rfl rfl rfl (op_moveO rfl rfl) ?_
              refine st rfl rfl rfl (op_add64 rfl rfl rfl (by omega) (by omega)) ?_
              refine st rfl rfl rfl (op_moveO rfl rfl) ?_
              refine st rfl rfl rfl (op_add64 rfl rfl rfl (by omega) (by omega)) ?_
              refine st rfl rfl rfl (op_assignO rfl rfl) ?_
              refine AOps_nil ?_
              refine AWp_seq ?_
              -- region 13 ref.go:32
              refine AWp_regL ?_
              refine st rfl rfl rfl (op_moveO rfl rfl) ?_
              refine st rfl rfl rfl (op_eql rfl rfl rfl) ?_
              refine AOps_nil ?_
              refine AWp_cond rfl (fun h7 => ?_) (fun h7 => ?_)
              · (try rw [h7]); (try simp only [decide_eq_true_eq, decide_eq_false_iff_not, Bool.not_eq_true', Bool.not_eq_false', Int.not_lt, Int.not_le, Bool.not_true, Bool.not_false, Int.toNat_natCast, tn1, tn2, tnn, bne_iff_ne, beq_iff_eq, beq_eq_false_iff_ne, ne_eq, Decidable.not_not] at h7)
                refine AWp_seq ?_
                -- region 14 ref.go:33
                refine AWp_regL ?_
                refine st rfl rfl rfl (op_moveO rfl rfl) ?_
                refine st rfl rfl rfl (op_assignO rfl rfl) ?_
                refine st rfl rfl rfl (op_assignO rfl rfl) ?_
                refine AOps_nil ?_
                refine AWp_ret ?_
                (try simp only [blockQ, thenQ])
                have hE : rEnd s a = (k + 1, false) := by rw [hE]; unfold eFrac; rw [if_pos (by omega), if_pos (by omega)]
                rw [hE]; refine ResQ_20 rfl rfl hcl (by simp [AV.lt, AV.ltL]) (Ret_of ?_)
                congr 3; dsimp only; omega
              · (try rw [h7]); (try simp only [decide_eq_true_eq, decide_eq_false_iff_not, Bool.not_eq_true', Bool.not_eq_false', Int.not_lt, Int.not_le, Bool.not_true, Bool.not_false, Int.toNat_natCast, tn1, tn2, tnn, bne_iff_ne, beq_iff_eq, beq_eq_false_iff_ne, ne_eq, Decidable.not_not] at h7)
                refine AWp_skip ?_
                first | refine ⟨k + 1 + runl s (k + 1), ⟨by rw [hE]; unfold eFrac; rw [if_pos (by omega), if_neg (by omega)], by omega⟩, ⟨rfl, rfl, rfl, trivial⟩, rfl⟩ | refine ⟨k, ⟨by rw [hE]; unfold eFrac; rw [if_neg (by omega)], by omega⟩, ⟨rfl, rfl, rfl, trivial⟩, rfl⟩
            · (try rw [h6]); (try simp only [decide_eq_true_eq, decide_eq_false_iff_not, Bool.not_eq_true', Bool.not_eq_false', Int.not_lt, Int.not_le, Bool.not_true, Bool.not_false, Int.toNat_natCast, tn1, tn2, tnn, bne_iff_ne, beq_iff_eq, beq_eq_false_iff_ne, ne_eq, Decidable.not_not] at h6)
              refine AWp_skip ?_
              first | refine ⟨k + 1 + runl s (k + 1), ⟨by rw [hE]; unfold eFrac; rw [if_pos (by omega), if_neg (by omega)], by omega⟩, ⟨rfl, rfl, rfl, trivial⟩, rfl⟩ | refine ⟨k, ⟨by rw [hE]; unfold eFrac; rw [if_neg (by omega)], by omega⟩, ⟨rfl, rfl, rfl, trivial⟩, rfl⟩
          · rw [h5]; (try simp only [decide_eq_true_eq, decide_eq_false_iff_not, Bool.not_eq_true', Bool.not_eq_false', Int.not_lt, Int.not_le, Bool.not_true, Bool.not_false, Int.toNat_natCast, tn1, tn2, tnn, bne_iff_ne, beq_iff_eq, beq_eq_false_iff_ne, ne_eq, Decidable.not_not] at h5)
            refine stS rfl rfl rfl (.inl rfl) rfl rfl ?_
            refine stS rfl rfl rfl (.inl rfl) rfl rfl ?_
            refine stS rfl rfl rfl (.inl rfl) rfl rfl ?_
            refine stS rfl rfl rfl (.inl rfl) rfl rfl ?_
            refine st rfl rfl rfl (op_pickFO rfl rfl rfl) ?_
            refine AOps_nil ?_
            refine AWp_condF rfl ?_
            refine AWp_skip ?_
            first | refine ⟨k + 1 + runl s (k + 1), ⟨by rw [hE]; unfold eFrac; rw [if_pos (by omega), if_neg (by omega)], by omega⟩, ⟨rfl, rfl, rfl, trivial⟩, rfl⟩ | refine ⟨k, ⟨by rw [hE]; unfold eFrac; rw [if_neg (by omega)], by omega⟩, ⟨rfl, rfl, rfl, trivial⟩, rfl⟩
        · skip
          obtain ⟨hE, hj⟩ := hj
          refine AWp_seq ?_
          refine AWp_seq ?_
          -- region 15 ref.go:36
          refine AWp_regL ?_
          refine st rfl rfl rfl (op_moveO rfl rfl) ?_
          refine st rfl rfl rfl (op_moveO rfl rfl) ?_
          refine st rfl rfl rfl (op_lenStr rfl rfl Tryd.underlying9 rfl) ?_
          refine st rfl rfl rfl (op_lss rfl rfl rfl) ?_
          refine st rfl rfl rfl (op_moveO rfl rfl) ?_
          refine AOps_split 59 rfl (fun h8 => ?_) (fun h8 => ?_)
          · rw [h8]; (try simp only [decide_eq_true_eq, decide_eq_false_iff_not, Bool.not_eq_true', Bool.not_eq_false', Int.not_lt, Int.not_le, Bool.not_true, Bool.not_false, Int.toNat_natCast, tn1, tn2, tnn, bne_iff_ne, beq_iff_eq, beq_eq_false_iff_ne, ne_eq, Decidable.not_not] at h8)
            refine stG rfl rfl rfl rfl rfl rfl (op_moveO rfl rfl) ?_
            refine stG rfl rfl rfl rfl rfl rfl (op_moveO rfl rfl) ?_
            refine stG rfl rfl rfl rfl rfl rfl (op_index_strB rfl Tryd.underlying9 rfl rfl (by omega) (by omega)) ?_
            refine stG rfl rfl rfl rfl rfl rfl (op_eql rfl rfl rfl) ?_
            refine stG rfl rfl rfl rfl rfl rfl (op_moveO rfl rfl) ?_
            refine AOps_split 64 rfl (fun h9 => ?_) (fun h9 => ?_)
            · rw [h9]; (try simp only [decide_eq_true_eq, decide_eq_false_iff_not, Bool.not_eq_true', Bool.not_eq_false', Int.not_lt, Int.not_le, Bool.not_true, Bool.not_false, Int.toNat_natCast, tn1, tn2, tnn, bne_iff_ne, beq_iff_eq, beq_eq_false_iff_ne, ne_eq, Decidable.not_not] at h9)
              refine stS rfl rfl rfl (.inl rfl) rfl rfl ?_
              refine stS rfl rfl rfl (.inl rfl) rfl rfl ?_
              refine stS rfl rfl rfl (.inl rfl) rfl rfl ?_
              refine stS rfl rfl rfl (.inl rfl) rfl rfl ?_
              refine stG rfl rfl rfl rfl rfl rfl (op_pickTO rfl rfl rfl) ?_
              refine st rfl rfl rfl (op_pickTO rfl rfl rfl) ?_
              refine AOps_nil ?_
              refine AWp_condT rfl ?_
              refine AWp_seq ?_
              -- region 16 ref.go:37
              refine AWp_regL ?_
              refine st rfl rfl rfl (op_moveO rfl rfl) ?_
              refine st rfl rfl rfl (op_add64 rfl rfl rfl (by omega) (by omega)) ?_
              refine st rfl rfl rfl (op_assignO rfl rfl) ?_
              refine AOps_nil ?_
              refine AWp_join (ι := Unit) (fun b => True) (fun b => ⟨[], [(0, .str s), (6, .int .i64 (eSg s (j + 1) : Int))]⟩) (fun b => σ) ?_ (fun b hj => ?_)
              · skip
                refine AWp_seq ?_
                -- region 17 ref.go:38
                refine AWp_regL ?_
                refine st rfl rfl rfl (op_moveO rfl rfl) ?_
                refine st rfl rfl rfl (op_moveO rfl rfl) ?_
                refine st rfl rfl rfl (op_lenStr rfl rfl Tryd.underlying9 rfl) ?_
                refine st rfl rfl rfl (op_lss rfl rfl rfl) ?_
                refine st rfl rfl rfl (op_moveO rfl rfl) ?_
                refine AOps_split 77 rfl (fun h10 => ?_) (fun h10 => ?_)
                · rw [h10]; (try simp only [decide_eq_true_eq, decide_eq_false_iff_not, Bool.not_eq_true', Bool.not_eq_false', Int.not_lt, Int.not_le, Bool.not_true, Bool.not_false, Int.toNat_natCast, tn1, tn2, tnn, bne_iff_ne, beq_iff_eq, beq_eq_false_iff_ne, ne_eq, Decidable.not_not] at h10)
                  refine stG rfl rfl rfl rfl rfl rfl (op_moveO rfl rfl) ?_
                  refine stG rfl rfl rfl rfl rfl rfl (op_moveO rfl rfl) ?_
                  refine stG rfl rfl rfl rfl rfl rfl (op_index_strB rfl Tryd.underlying9 rfl rfl (by omega) (by omega)) ?_
                  refine stG rfl rfl rfl rfl rfl rfl (op_eql rfl rfl rfl) ?_
                  refine stG rfl rfl rfl rfl rfl rfl (op_moveO rfl rfl) ?_
                  refine AOps_split 82 rfl (fun h11 => ?_) (fun h11 => ?_)
                  · rw [h11]; (try simp only [decide_eq_true_eq, decide_eq_false_iff_not, Bool.not_eq_true', Bool.not_eq_false', Int.not_lt, Int.not_le, Bool.not_true, Bool.not_false, Int.toNat_natCast, tn1, tn2, tnn, bne_iff_ne, beq_iff_eq, beq_eq_false_iff_ne, ne_eq, Decidable.not_not] at h11)
                    refine stS rfl rfl rfl (.inl rfl) rfl rfl ?_
                    refine stS rfl rfl rfl (.inl rfl) rfl rfl ?_
                    refine stS rfl rfl rfl (.inl rfl) rfl rfl ?_
                    refine stS rfl rfl rfl (.inl rfl) rfl rfl ?_
                    refine stG rfl rfl rfl rfl rfl rfl (op_pickTO rfl rfl rfl) ?_
                    refine st rfl rfl rfl (op_pickTO rfl rfl rfl) ?_
                    refine AOps_nil ?_
                    refine AWp_condT rfl ?_
                    -- region 18 ref.go:39
                    refine AWp_regL ?_
                    refine st rfl rfl rfl (op_moveO rfl rfl) ?_
                    refine st rfl rfl rfl (op_add64 rfl rfl rfl (by omega) (by omega)) ?_
                    refine st rfl rfl rfl (op_assignO rfl rfl) ?_
                    refine AOps_nil ?_
                    refine ⟨(), trivial, ⟨rfl, rfl, ?_, trivial⟩, rfl⟩
                    unfold eSg; first | (rw [if_pos (by omega)]; rfl) | (rw [if_neg (by omega)]; rfl)
                  · rw [h11]; (try simp only [decide_eq_true_eq, decide_eq_false_iff_not, Bool.not_eq_true', Bool.not_eq_false', Int.not_lt, Int.not_le, Bool.not_true, Bool.not_false, Int.toNat_natCast, tn1, tn2, tnn, bne_iff_ne, beq_iff_eq, beq_eq_false_iff_ne, ne_eq, Decidable.not_not] at h11)
                    refine stG rfl rfl rfl rfl rfl rfl (op_moveO rfl rfl) ?_
                    refine stG rfl rfl rfl rfl rfl rfl (op_moveO rfl rfl) ?_
                    refine stG rfl rfl rfl rfl rfl rfl (op_index_strB rfl Tryd.underlying9 rfl rfl (by omega) (by omega)) ?_
                    refine stG rfl rfl rfl rfl rfl rfl (op_eql rfl rfl rfl) ?_
                    refine stG rfl rfl rfl rfl rfl rfl (op_pickFO rfl rfl rfl) ?_
                    refine st rfl rfl rfl (op_pickTO rfl rfl rfl) ?_
                    refine AOps_nil ?_
                    refine AWp_cond rfl (fun h12 => ?_) (fun h12 => ?_)
                    · (try rw [h12]); (try simp only [decide_eq_true_eq, decide_eq_false_iff_not, Bool.not_eq_true', Bool.not_eq_false', Int.not_lt, Int.not_le, Bool.not_true, Bool.not_false, Int.toNat_natCast, tn1, tn2, tnn, bne_iff_ne, beq_iff_eq, beq_eq_false_iff_ne, ne_eq, Decidable.not_not] at h12)
                      -- region 18 ref.go:39
                      refine AWp_regL ?_
                      refine st rfl rfl rfl (op_moveO rfl rfl) ?_
                      refine st rfl rfl rfl (op_add64 rfl rfl rfl (by omega) (by omega)) ?_
                      refine st rfl rfl rfl (op_assignO rfl rfl) ?_
                      refine AOps_nil ?_
                      refine ⟨(), trivial, ⟨rfl, rfl, ?_, trivial⟩, rfl⟩
                      unfold eSg; first | (rw [if_pos (by omega)]; rfl) | (rw [if_neg (by omega)]; rfl)
                    · (try rw [h12]); (try simp only [decide_eq_true_eq, decide_eq_false_iff_not, Bool.not_eq_true', Bool.not_eq_false', Int.not_lt, Int.not_le, Bool.not_true, Bool.not_false, Int.toNat_natCast, tn1, tn2, tnn, bne_iff_ne, beq_iff_eq, beq_eq_false_iff_ne, ne_eq, Decidable.not_not] at h12)
                      refine AWp_skip ?_
                      refine ⟨(), trivial, ⟨rfl, rfl, ?_, trivial⟩, rfl⟩
                      unfold eSg; first | (rw [if_pos (by omega)]; rfl) | (rw [if_neg (by omega)]; rfl)
                · rw [h10]; (try simp only [decide_eq_true_eq, decide_eq_false_iff_not, Bool.not_eq_true', Bool.not_eq_false', Int.not_lt, Int.not_le, Bool.not_true, Bool.not_false, Int.toNat_natCast, tn1, tn2, tnn, bne_iff_ne, beq_iff_eq, beq_eq_false_iff_ne, ne_eq, Decidable.not_not] at h10)
                  refine stS rfl rfl rfl (.inl rfl) rfl rfl ?_
                  refine stS rfl rfl rfl (.inl rfl) rfl rfl ?_
                  refine stS rfl rfl rfl (.inl rfl) rfl rfl ?_
                  refine stS rfl rfl rfl (.inl rfl) rfl rfl ?_
                  refine stS rfl rfl rfl (.inl rfl) rfl rfl ?_
                  refine stS rfl rfl rfl (.inr rfl) rfl rfl ?_
                  refine stS rfl rfl rfl (.inr rfl) rfl rfl ?_
                  refine stS rfl rfl rfl (.inr rfl) rfl rfl ?_
                  refine stS rfl rfl rfl (.inr rfl) rfl rfl ?_
                  refine stS rfl rfl rfl (.inl rfl) rfl rfl ?_
                  refine st rfl rfl rfl (op_pickFO rfl rfl rfl) ?_
                  refine AOps_nil ?_
                  refine AWp_condF rfl ?_
                  refine AWp_skip ?_
                  refine ⟨(), trivial, ⟨rfl, rfl, ?_, trivial⟩, rfl⟩
                  unfold eSg; first | (rw [if_pos (by omega)]; rfl) | (rw [if_neg (by omega)]; rfl)
              · skip
                have hi3 := eSg_le (s := s) (a := j + 1) (by omega)
                have hr3 := runl_le s (eSg s (j + 1))
                refine AWp_seq ?_
                -- region 19 ref.go:41
                refine AWp_regL ?_
                refine st rfl rfl rfl (op_moveO rfl rfl) ?_
                refine st rfl rfl rfl (op_moveO rfl rfl) ?_
                refine st rfl rfl rfl (op_callF rfl rfl rfl Tryd.func51 rfl rfl (run_n s (eSg s (j + 1)) _ hs (by omega))) ?_
                refine st rfl rfl rfl (op_assignO rfl rfl) ?_
                refine AOps_nil ?_
                refine AWp_seq ?_
                -- region 20 ref.go:42
                refine AWp_regL ?_
                refine st rfl rfl rfl (op_moveO rfl rfl) ?_
                refine st rfl rfl rfl (op_moveO rfl rfl) ?_
                refine st rfl rfl rfl (op_add64 rfl rfl rfl (by omega) (by omega)) ?_
                refine st rfl rfl rfl (op_assignO rfl rfl) ?_
                refine AOps_nil ?_
                refine AWp_seq ?_
                -- region 21 ref.go:43
                refine AWp_regL ?_
                refine st rfl rfl rfl (op_moveO rfl rfl) ?_
                refine st rfl rfl rfl (op_eql rfl rfl rfl) ?_
                refine AOps_nil ?_
                refine AWp_cond rfl (fun h13 => ?_) (fun h13 => ?_)
                · (try rw [h13]); (try simp only [decide_eq_true_eq, decide_eq_false_iff_not, Bool.not_eq_true', Bool.not_eq_false', Int.not_lt, Int.not_le, Bool.not_true, Bool.not_false, Int.toNat_natCast, tn1, tn2, tnn, bne_iff_ne, beq_iff_eq, beq_eq_false_iff_ne, ne_eq, Decidable.not_not] at h13)
                  refine AWp_seq ?_
                  -- region 22 ref.go:44
                  refine AWp_regL ?_
                  refine st rfl rfl rfl (op_moveO rfl rfl) ?_
                  refine st rfl rfl rfl (op_assignO rfl rfl) ?_
                  refine st rfl rfl rfl (op_assignO rfl rfl) ?_
                  refine AOps_nil ?_
                  refine AWp_ret ?_
                  (try simp only [blockQ, thenQ])
                  first | (have hE2 : rEnd s a = (eSg s (j + 1), false) := by rw [hE]; unfold ePow; rw [if_pos (by omega), if_pos (by omega)]); rw [hE2]; (refine ResQ_20 rfl rfl hcl (by simp [AV.lt, AV.ltL]) (Ret_of ?_)); congr 3; dsimp only; omega | (have hE2 : rEnd s a = (eSg s (j + 1) + runl s (eSg s (j + 1)), true) := by rw [hE]; unfold ePow; rw [if_pos (by omega), if_neg (by omega)]); rw [hE2]; exact ResQ_20 rfl rfl hcl (by simp [AV.lt, AV.ltL]) (Ret_of rfl) | (have hE2 : rEnd s a = (j, true) := by rw [hE]; unfold ePow; rw [if_neg (by omega)]); rw [hE2]; exact ResQ_20 rfl rfl hcl (by simp [AV.lt, AV.ltL]) (Ret_of rfl)
                · (try rw [h13]); (try simp only [decide_eq_true_eq, decide_eq_false_iff_not, Bool.not_eq_true', Bool.not_eq_false', Int.not_lt, Int.not_le, Bool.not_true, Bool.not_false, Int.toNat_natCast, tn1, tn2, tnn, bne_iff_ne, beq_iff_eq, beq_eq_false_iff_ne, ne_eq, Decidable.not_not] at h13)
                  refine AWp_skip ?_
                  refine AWp_seq ?_
                  -- region 23 ref.go:47
                  refine AWp_regL ?_
                  refine st rfl rfl rfl (op_moveO rfl rfl) ?_
                  refine st rfl rfl rfl (op_assignO rfl rfl) ?_
                  refine st rfl rfl rfl (op_assignO rfl rfl) ?_
                  refine AOps_nil ?_
                  refine AWp_ret ?_
                  (try simp only [blockQ, thenQ])
                  first | (have hE2 : rEnd s a = (eSg s (j + 1), false) := by rw [hE]; unfold ePow; rw [if_pos (by omega), if_pos (by omega)]); rw [hE2]; (refine ResQ_20 rfl rfl hcl (by simp [AV.lt, AV.ltL]) (Ret_of ?_)); congr 3; dsimp only; omega | (have hE2 : rEnd s a = (eSg s (j + 1) + runl s (eSg s (j + 1)), true) := by rw [hE]; unfold ePow; rw [if_pos (by omega), if_neg (by omega)]); rw [hE2]; exact ResQ_20 rfl rfl hcl (by simp [AV.lt, AV.ltL]) (Ret_of rfl) | (have hE2 : rEnd s a = (j, true) := by rw [hE]; unfold ePow; rw [if_neg (by omega)]); rw [hE2]; exact ResQ_20 rfl rfl hcl (by simp [AV.lt, AV.ltL]) (Ret_of rfl)
            · rw [h9]; (try simp only [decide_eq_true_eq, decide_eq_false_iff_not, Bool.not_eq_true', Bool.not_eq_false', Int.not_lt, Int.not_le, Bool.not_true, Bool.not_false, Int.toNat_natCast, tn1, tn2, tnn, bne_iff_ne, beq_iff_eq, beq_eq_false_iff_ne, ne_eq, Decidable.not_not] at h9)
              refine stG rfl rfl rfl rfl rfl rfl (op_moveO rfl rfl) ?_
              refine stG rfl rfl rfl rfl rfl rfl (op_moveO rfl rfl) ?_
              refine stG rfl rfl rfl rfl rfl rfl (op_index_strB rfl Tryd.underlying9 rfl rfl (by omega) (by omega)) ?_
              refine stG rfl rfl rfl rfl rfl rfl (op_eql rfl rfl rfl) ?_
              refine stG rfl rfl rfl rfl rfl rfl (op_pickFO rfl rfl rfl) ?_
              refine st rfl rfl rfl (op_pickTO rfl rfl rfl) ?_
              refine AOps_nil ?_
              refine AWp_cond rfl (fun h14 => ?_) (fun h14 => ?_)
              · (try rw [h14]); (try simp only [decide_eq_true_eq, decide_eq_false_iff_not, Bool.not_eq_true', Bool.not_eq_false', Int.not_lt, Int.not_le, Bool.not_true, Bool.not_false, Int.toNat_natCast, tn1, tn2, tnn, bne_iff_ne, beq_iff_eq, beq_eq_false_iff_ne, ne_eq, Decidable.not_not] at h14)
                refine AWp_seq ?_
                -- region 16 ref.go:37
                refine AWp_regL ?_
                refine st rfl rfl rfl (op_moveO rfl rfl) ?_
                refine st rfl rfl rfl (op_add64 rfl rfl rfl (by omega) (by omega)) ?_
                refine st rfl rfl rfl (op_assignO rfl rfl) ?_
                refine AOps_nil ?_
                refine AWp_join (ι := Unit) (fun b => True) (fun b => ⟨[], [(0, .str s), (6, .int .i64 (eSg s (j + 1) : Int))]⟩) (fun b => σ) ?_ (fun b hj => ?_)
                · skip
                  refine AWp_seq ?_
                  -- region 17 ref.go:38
                  refine AWp_regL ?_
                  refine st rfl rfl rfl (op_moveO rfl rfl) ?_
                  refine st rfl rfl rfl (op_moveO rfl rfl) ?_
                  refine st rfl rfl rfl (op_lenStr rfl rfl Tryd.underlying9 rfl) ?_
                  refine st rfl rfl rfl (op_lss rfl rfl rfl) ?_
                  refine st rfl rfl rfl (op_moveO rfl rfl) ?_
                  refine AOps_split 77 rfl (fun h15 => ?_) (fun h15 => ?_)
                  · rw [h15]; (try simp only [decide_eq_true_eq, decide_eq_false_iff_not, Bool.not_eq_true', Bool.not_eq_false', Int.not_lt, Int.not_le, Bool.not_true, Bool.not_false, Int.toNat_natCast, tn1, tn2, tnn, bne_iff_ne, beq_iff_eq, beq_eq_false_iff_ne, ne_eq, Decidable.not_not] at h15)
                    refine stG rfl rfl rfl rfl rfl rfl (op_moveO rfl rfl) ?_
                    refine stG rfl rfl rfl rfl rfl rfl (op_moveO rfl rfl) ?_
                    refine stG rfl rfl rfl rfl rfl rfl (op_index_strB rfl Tryd.underlying9 rfl rfl (by omega) (by omega)) ?_
                    refine stG rfl rfl rfl rfl rfl rfl (op_eql rfl rfl rfl) ?_
                    refine stG rfl rfl rfl rfl rfl rfl (op_moveO rfl rfl) ?_
                    refine AOps_split 82 rfl (fun h16 => ?_) (fun h16 => ?_)
                    · rw [h16]; (try simp only [decide_eq_true_eq, decide_eq_false_iff_not, Bool.not_eq_true', Bool.not_eq_false', Int.not_lt, Int.not_le, Bool.not_true, Bool.not_false, Int.toNat_natCast, tn1, tn2, tnn, bne_iff_ne, beq_iff_eq, beq_eq_false_iff_ne, ne_eq, Decidable.not_not] at h16)
                      refine stS rfl rfl rfl (.inl rfl) rfl rfl ?_
                      refine stS rfl rfl rfl (.inl rfl) rfl rfl ?_
                      refine stS rfl rfl rfl (.inl rfl) rfl rfl ?_
                      refine stS rfl rfl rfl (.inl rfl) rfl rfl ?_
                      refine stG rfl rfl rfl rfl rfl rfl (op_pickTO rfl rfl rfl) ?_
                      refine st rfl rfl rfl (op_pickTO rfl rfl rfl) ?_
                      refine AOps_nil ?_
                      refine AWp_condT rfl ?_
                      -- region 18 ref.go:39
                      refine AWp_regL ?_
                      refine st rfl rfl rfl (op_moveO rfl rfl) ?_
                      refine st rfl rfl rfl (op_add64 rfl rfl rfl (by omega) (by omega)) ?_
                      refine st rfl rfl rfl (op_assignO rfl rfl) ?_
                      refine AOps_nil ?_
                      refine ⟨(), trivial, ⟨rfl, rfl, ?_, trivial⟩, rfl⟩
                      unfold eSg; first | (rw [if_pos (by omega)]; rfl) | (rw [if_neg (by omega)]; rfl)
                    · rw [h16]; (try simp only [decide_eq_true_eq, decide_eq_false_iff_not, Bool.not_eq_true', Bool.not_eq_false', Int.not_lt, Int.not_le, Bool.not_true, Bool.not_false, Int.toNat_natCast, tn1, tn2, tnn, bne_iff_ne, beq_iff_eq, beq_eq_false_iff_ne, ne_eq, Decidable.not_not] at h16)
                      refine stG rfl rfl rfl rfl rfl rfl (op_moveO rfl rfl) ?_
                      refine stG rfl rfl rfl rfl rfl rfl (op_moveO rfl rfl) ?_
                      refine stG rfl rfl rfl rfl rfl rfl (op_index_strB rfl Tryd.underlying9 rfl rfl (by omega) (by omega)) ?_
                      refine stG rfl rfl rfl rfl rfl rfl (op_eql rfl rfl rfl) ?_
                      refine stG rfl rfl rfl rfl rfl rfl (op_pickFO rfl rfl rfl) ?_
                      refine st rfl rfl rfl (op_pickTO rfl rfl rfl) ?_
                      refine AOps_nil ?_
                      refine AWp_cond rfl (fun h17 => ?_) (fun h17 => ?_)
                      · (try rw [h17]); (try simp only [decide_eq_true_eq, decide_eq_false_iff_not, Bool.not_eq_true', Bool.not_eq_false', Int.not_lt, Int.not_le, Bool.not_true, Bool.not_false, Int.toNat_natCast, tn1, tn2, tnn, bne_iff_ne, beq_iff_eq, beq_eq_false_iff_ne, ne_eq, Decidable.not_not] at h17)
                        -- region 18 ref.go:39
                        refine AWp_regL ?_
                        refine st rfl rfl rfl (op_moveO rfl rfl) ?_
                        refine st rfl rfl rfl (op_add64 rfl rfl rfl (by omega) (by omega)) ?_
                        refine st rfl rfl rfl (op_assignO rfl rfl) ?_
                        refine AOps_nil ?_
                        refine ⟨(), trivial, ⟨rfl, rfl, ?_, trivial⟩, rfl⟩
                        unfold eSg; first | (rw [if_pos (by omega)]; rfl) | (rw [if_neg (by omega)]; rfl)
                      · (try rw [h17]); (try simp only [decide_eq_true_eq, decide_eq_false_iff_not, Bool.not_eq_true', Bool.not_eq_false', Int.not_lt, Int.not_le, Bool.not_true, Bool.not_false, Int.toNat_natCast, tn1, tn2, tnn, bne_iff_ne, beq_iff_eq, beq_eq_false_iff_ne, ne_eq, Decidable.not_not] at h17)
                        refine AWp_skip ?_
                        refine ⟨(), trivial, ⟨rfl, rfl, ?_, trivial⟩, rfl⟩
                        unfold eSg; first | (rw [if_pos (by omega)]; rfl) | (rw [if_neg (by omega)]; rfl)
                  · rw [h15]; (try simp only [decide_eq_true_eq, decide_eq_false_iff_not, Bool.not_eq_true', Bool.not_eq_false', Int.not_lt, Int.not_le, Bool.not_true, Bool.not_false, Int.toNat_natCast, tn1, tn2, tnn, bne_iff_ne, beq_iff_eq, beq_eq_false_iff_ne, ne_eq, Decidable.not_not] at h15)
                    refine stS rfl rfl rfl (.inl rfl) rfl rfl ?_
                    refine stS rfl rfl rfl (.inl rfl) rfl rfl ?_
                    refine stS rfl rfl rfl (.inl rfl) rfl rfl ?_
                    refine stS rfl rfl rfl (.inl rfl) rfl rfl ?_
                    refine stS rfl rfl rfl (.inl rfl) rfl rfl ?_
                    refine stS rfl rfl rfl (.inr rfl) rfl rfl ?_
                    refine stS rfl rfl rfl (.inr rfl) rfl rfl ?_
                    refine stS rfl rfl rfl (.inr rfl) rfl rfl ?_
                    refine stS rfl rfl rfl (.inr rfl) rfl rfl ?_
                    refine stS rfl rfl rfl (.inl rfl) rfl rfl ?_
                    refine st rfl rfl rfl (op_pickFO rfl rfl rfl) ?_
                    refine AOps_nil ?_
                    refine AWp_condF rfl ?_
                    refine AWp_skip ?_
                    refine ⟨(), trivial, ⟨rfl, rfl, ?_, trivial⟩, rfl⟩
                    unfold eSg; first | (rw [if_pos (by omega)]; rfl) | (rw [if_neg (by omega)]; rfl)
                · skip
                  have hi3 := eSg_le (s := s) (a := j + 1) (by omega)
                  have hr3 := runl_le s (eSg s (j + 1))
                  refine AWp_seq ?_
                  -- region 19 ref.go:41
                  refine AWp_regL ?_
                  refine st rfl rfl rfl (op_moveO rfl rfl) ?_
                  refine st rfl rfl rfl (op_moveO rfl rfl) ?_
                  refine st rfl rfl rfl (op_callF rfl rfl rfl Tryd.func51 rfl rfl (run_n s (eSg s (j + 1)) _ hs (by omega))) ?_
                  refine st rfl rfl rfl (op_assignO rfl rfl) ?_
                  refine AOps_nil ?_
                  refine AWp_seq ?_
                  -- region 20 ref.go:42
                  refine AWp_regL ?_
                  refine st rfl rfl rfl (op_moveO rfl rfl) ?_
                  refine st rfl rfl rfl (op_moveO rfl rfl) ?_
                  refine st rfl rfl rfl (op_add64 rfl rfl rfl (by omega) (by omega)) ?_
                  refine st rfl rfl rfl (op_assignO rfl rfl) ?_
                  refine AOps_nil ?_
                  refine AWp_seq ?_
                  -- region 21 ref.go:43
                  refine AWp_regL ?_
                  refine st rfl rfl rfl (op_moveO rfl rfl) ?_
                  refine st rfl rfl rfl (op_eql rfl rfl rfl) ?_
                  refine AOps_nil ?_
                  refine AWp_cond rfl (fun h18 => ?_) (fun h18 => ?_)
                  · (try rw [h18]); (try simp only [decide_eq_true_eq, decide_eq_false_iff_not, Bool.not_eq_true', Bool.not_eq_false', Int.not_lt, Int.not_le, Bool.not_true, Bool.not_false, Int.toNat_natCast, tn1, tn2, tnn, bne_iff_ne, beq_iff_eq, beq_eq_false_iff_ne, ne_eq, Decidable.not_not] at h18)
                    refine AWp_seq ?_
                    -- region 22 ref.go:44
                    refine AWp_regL ?_
                    refine st rfl rfl rfl (op_moveO rfl rfl) ?_
                    refine st rfl rfl rfl (op_assignO rfl rfl) ?_
                    refine st rfl rfl rfl (op_assignO rfl rfl) ?_
                    refine AOps_nil ?_
                    refine AWp_ret ?_
                    (try simp only [blockQ, thenQ])
                    first | (have hE2 : rEnd s a = (eSg s (j + 1), false) := by rw [hE]; unfold ePow; rw [if_pos (by omega), if_pos (by omega)]); rw [hE2]; (refine ResQ_20 rfl rfl hcl (by simp [AV.lt, AV.ltL]) (Ret_of ?_)); congr 3; dsimp only; omega | (have hE2 : rEnd s a = (eSg s (j + 1) + runl s (eSg s (j + 1)), true) := by rw [hE]; unfold ePow; rw [if_pos (by omega), if_neg (by omega)]); rw [hE2]; exact ResQ_20 rfl rfl hcl (by simp [AV.lt, AV.ltL]) (Ret_of rfl) | (have hE2 : rEnd s a = (j, true) := by rw [hE]; unfold ePow; rw [if_neg (by omega)]); rw [hE2]; exact ResQ_20 rfl rfl hcl (by simp [AV.lt, AV.ltL]) (Ret_of rfl)
                  · (try rw [h18]); (try simp only [decide_eq_true_eq, decide_eq_false_iff_not, Bool.not_eq_true', Bool.not_eq_false', Int.not_lt, Int.not_le, Bool.not_true, Bool.not_false, Int.toNat_natCast, tn1, tn2, tnn, bne_iff_ne, beq_iff_eq, beq_eq_false_iff_ne, ne_eq, Decidable.not_not] at h18)
                    refine AWp_skip ?_
                    refine AWp_seq ?_
                    -- region 23 ref.go:47
                    refine AWp_regL ?_
                    refine st rfl rfl rfl (op_moveO rfl rfl) ?_
                    refine st rfl rfl rfl (op_assignO rfl rfl) ?_
                    refine st rfl rfl rfl (op_assignO rfl rfl) ?_
                    refine AOps_nil ?_
                    refine AWp_ret ?_
                    (try simp only [blockQ, thenQ])
                    first | (have hE2 : rEnd s a = (eSg s (j + 1), false) := by rw [hE]; unfold ePow; rw [if_pos (by omega), if_pos (by omega)]); rw [hE2]; (refine ResQ_20 rfl rfl hcl (by simp [AV.lt, AV.ltL]) (Ret_of ?_)); congr 3; dsimp only; omega | (have hE2 : rEnd s a = (eSg s (j + 1) + runl s (eSg s (j + 1)), true) := by rw [hE]; unfold ePow; rw [if_pos (by omega), if_neg (by omega)]); rw [hE2]; exact ResQ_20 rfl rfl hcl (by simp [AV.lt, AV.ltL]) (Ret_of rfl) | (have hE2 : rEnd s a = (j, true) := by rw [hE]; unfold ePow; rw [if_neg (by omega)]); rw [hE2]; exact ResQ_20 rfl rfl hcl (by simp [AV.lt, AV.ltL]) (Ret_of rfl)
              · (try rw [h14]); (try simp only [decide_eq_true_eq, decide_eq_false_iff_not, Bool.not_eq_true', Bool.not_eq_false', Int.not_lt, Int.not_le, Bool.not_true, Bool.not_false, Int.toNat_natCast, tn1, tn2, tnn, bne_iff_ne, beq_iff_eq, beq_eq_false_iff_ne, ne_eq, Decidable.not_not] at h14)
                refine AWp_skip ?_
                refine AWp_seq ?_
                -- region 23 ref.go:47
                refine AWp_regL ?_
                refine st rfl rfl rfl (op_moveO rfl rfl) ?_
                refine st rfl rfl rfl (op_assignO rfl rfl) ?_
                refine st rfl rfl rfl (op_assignO rfl rfl) ?_
                refine AOps_nil ?_
                refine AWp_ret ?_
                (try simp only [blockQ, thenQ])
                first | (have hE2 : rEnd s a = (eSg s (j + 1), false) := by rw [hE]; unfold ePow; rw [if_pos (by omega), if_pos (by omega)]); rw [hE2]; (refine ResQ_20 rfl rfl hcl (by simp [AV.lt, AV.ltL]) (Ret_of ?_)); congr 3; dsimp only; omega | (have hE2 : rEnd s a = (eSg s (j + 1) + runl s (eSg s (j + 1)), true) := by rw [hE]; unfold ePow; rw [if_pos (by omega), if_neg (by omega)]); rw [hE2]; exact ResQ_20 rfl rfl hcl (by simp [AV.lt, AV.ltL]) (Ret_of rfl) | (have hE2 : rEnd s a = (j, true) := by rw [hE]; unfold ePow; rw [if_neg (by omega)]); rw [hE2]; exact ResQ_20 rfl rfl hcl (by simp [AV.lt, AV.ltL]) (Ret_of rfl)
          · rw [h8]; (try simp only [decide_eq_true_eq, decide_eq_false_iff_not, Bool.not_eq_true', Bool.not_eq_false', Int.not_lt, Int.not_le, Bool.not_true, Bool.not_false, Int.toNat_natCast, tn1, tn2, tnn, bne_iff_ne, beq_iff_eq, beq_eq_false_iff_ne, ne_eq, Decidable.not_not] at h8)
            refine stS rfl rfl rfl (.inl rfl) rfl rfl ?_
            refine stS rfl rfl rfl (.inl rfl) rfl rfl ?_
            refine stS rfl rfl rfl (.inl rfl) rfl rfl ?_
            refine stS rfl rfl rfl (.inl rfl) rfl rfl ?_
            refine stS rfl rfl rfl (.inl rfl) rfl rfl ?_
            refine stS rfl rfl rfl (.inr rfl) rfl rfl ?_
            refine stS rfl rfl rfl (.inr rfl) rfl rfl ?_
            refine stS rfl rfl rfl (.inr rfl) rfl rfl ?_
            refine stS rfl rfl rfl (.inr rfl) rfl rfl ?_
            refine stS rfl rfl rfl (.inl rfl) rfl rfl ?_
            refine st rfl rfl rfl (op_pickFO rfl rfl rfl) ?_
            refine AOps_nil ?_
            refine AWp_condF rfl ?_
            refine AWp_skip ?_
            refine AWp_seq ?_
            -- region 23 ref.go:47
            refine AWp_regL ?_
            refine st rfl rfl rfl (op_moveO rfl rfl) ?_
            refine st rfl rfl rfl (op_assignO rfl rfl) ?_
            refine st rfl rfl rfl (op_assignO rfl rfl) ?_
            refine AOps_nil ?_
            refine AWp_ret ?_
            (try simp only [blockQ, thenQ])
            first | (have hE2 : rEnd s a = (eSg s (j + 1), false) := by rw [hE]; unfold ePow; rw [if_pos (by omega), if_pos (by omega)]); rw [hE2]; (refine ResQ_20 rfl rfl hcl (by simp [AV.lt, AV.ltL]) (Ret_of ?_)); congr 3; dsimp only; omega | (have hE2 : rEnd s a = (eSg s (j + 1) + runl s (eSg s (j + 1)), true) := by rw [hE]; unfold ePow; rw [if_pos (by omega), if_neg (by omega)]); rw [hE2]; exact ResQ_20 rfl rfl hcl (by simp [AV.lt, AV.ltL]) (Ret_of rfl) | (have hE2 : rEnd s a = (j, true) := by rw [hE]; unfold ePow; rw [if_neg (by omega)]); rw [hE2]; exact ResQ_20 rfl rfl hcl (by simp [AV.lt, AV.ltL]) (Ret_of rfl)

end Lg
set_option maxRecDepth 20000
set_option maxHeartbeats 4000000
namespace Lg
open Go Go.Proofs Go.RowKit
variable [GLay] 


theorem hex_c (s : ByteArray) (a : Nat) (σ : List AO) (hs : s.size ≤ 1000000) (ha : a ≤ 2000000) : ACalls Tryd.prog 44 [.str s, .int .i64 (a : Int)] σ (Ret (.tup [.int .i64 (rhex s a).1, .int .i64 (rhex s a).2]) σ) := by
  refine ACalls_body Tryd.func44 rfl Tryd.ntmps44 (res2 Tryd.results44) (Nat.le_of_ble_eq_true rfl) (fun hcl hal => ?_)
  refine AWp_seq ?_
  -- region 0 ref.go:273
  refine AWp_regL ?_
  refine st rfl rfl rfl (op_assignO rfl rfl) ?_
  refine st rfl rfl rfl (op_assignO rfl rfl) ?_
  refine AOps_nil ?_
  refine AWp_seq ?_
  -- region 1 ref.go:274
  refine AWp_regL ?_
  refine st rfl rfl rfl (op_assignO rfl rfl) ?_
  refine AOps_nil ?_
  refine AWp_seq ?_
  refine AWp_seq ?_
  -- region 2 ref.go:275
  refine AWp_regL ?_
  refine st rfl rfl rfl (op_moveO rfl rfl) ?_
  refine st rfl rfl rfl (op_assignO rfl rfl) ?_
  refine AOps_nil ?_
  refine AWp_block ?_
  -- loop 0 LIVE 0:param 1:param 4:assign 5:assign 6:assign 7:assign
  refine AWp_loop (ι := Nat × Int) (fun q => hexF s q.1 (a + 4) q.2 = rhex s a ∧ a ≤ q.1 ∧ 0 ≤ q.2 ∧ ((q.1 = a ∧ q.2 = 0) ∨ (q.1 = a + 1 ∧ q.2 < 16) ∨ (q.1 = a + 2 ∧ q.2 < 256) ∨ (q.1 = a + 3 ∧ q.2 < 4096) ∨ (q.1 = a + 4 ∧ q.2 < 65536))) (fun q => ⟨[], [(0, .str s), (1, .int .i64 (a : Int)), (6, .int .i64 q.2), (7, .int .i64 (q.1 : Int))]⟩) (fun q => σ) (fun q => a + 4 - q.1) ((a, 0)) (⟨rfl, Nat.le_refl _, Int.le_refl _, .inl ⟨rfl, rfl⟩⟩) ?_ rfl (fun q hq => ?_)
  · exact ⟨rfl, rfl, rfl, rfl, rfl, trivial⟩
  obtain ⟨i, v⟩ := q
  obtain ⟨hq1, hq2, hq3, hq4⟩ := hq
  simp only at hq1 hq2 hq3 hq4 ⊢
  have hbl := bat_lt s i
  refine AWp_seq ?_
  refine AWp_seq ?_
  -- region 3 ref.go:275
  refine AWp_regL ?_
  refine st rfl rfl rfl (op_moveO rfl rfl) ?_
  refine st rfl rfl rfl (op_moveO rfl rfl) ?_
  refine st rfl rfl rfl (op_add64 rfl rfl rfl (by omega) (by omega)) ?_
  refine st rfl rfl rfl (op_lss rfl rfl rfl) ?_
  refine AOps_nil ?_
  refine AWp_cond rfl (fun h1 => ?_) (fun h1 => ?_)
  · (try rw [h1]); (try simp only [decide_eq_true_eq, decide_eq_false_iff_not, Bool.not_eq_true', Bool.not_eq_false', Int.not_lt, Int.not_le, Bool.not_true, Bool.not_false, Int.toNat_natCast, tn1, tn2, tnn, bne_iff_ne, beq_iff_eq, beq_eq_false_iff_ne, ne_eq, Decidable.not_not] at h1)
    refine AWp_skip ?_
    refine AWp_seq ?_
    refine AWp_block ?_
    refine AWp_seq ?_
    refine AWp_seq ?_
    -- region 5 ref.go:276
    refine AWp_regL ?_
    refine st rfl rfl rfl (op_moveO rfl rfl) ?_
    refine st rfl rfl rfl (op_moveO rfl rfl) ?_
    refine st rfl rfl rfl (op_lenStr rfl rfl Tryd.underlying9 rfl) ?_
    refine st rfl rfl rfl (op_geq rfl rfl rfl) ?_
    refine AOps_nil ?_
    refine AWp_cond rfl (fun h2 => ?_) (fun h2 => ?_)
    · (try rw [h2]); (try simp only [decide_eq_true_eq, decide_eq_false_iff_not, Bool.not_eq_true', Bool.not_eq_false', Int.not_lt, Int.not_le, Bool.not_true, Bool.not_false, Int.toNat_natCast, tn1, tn2, tnn, bne_iff_ne, beq_iff_eq, beq_eq_false_iff_ne, ne_eq, Decidable.not_not] at h2)
      refine AWp_seq ?_
      -- region 6 ref.go:277
      refine AWp_regL ?_
      refine st rfl rfl rfl (op_moveO rfl rfl) ?_
      refine st rfl rfl rfl (op_assignO rfl rfl) ?_
      refine st rfl rfl rfl (op_assignO rfl rfl) ?_
      refine AOps_nil ?_
      refine AWp_ret ?_
      (try simp only [blockQ, thenQ])
      first | (have hE : rhex s a = (0, (i : Int)) := by rw [← hq1, hexF.eq_1 s i, if_pos (by omega)]; first | (rw [if_pos (by omega)]; done) | (rw [if_neg (by omega), if_pos (by omega)]; done)); rw [hE]; exact ResQ_20 rfl rfl hcl (by simp [AV.lt, AV.ltL]) (Ret_of rfl) | (have hE : rhex s a = (v, -1) := by rw [← hq1, hexF.eq_1 s i, if_neg (by omega)]); rw [hE]; exact ResQ_20 rfl rfl hcl (by simp [AV.lt, AV.ltL]) (Ret_of rfl)
    · (try rw [h2]); (try simp only [decide_eq_true_eq, decide_eq_false_iff_not, Bool.not_eq_true', Bool.not_eq_false', Int.not_lt, Int.not_le, Bool.not_true, Bool.not_false, Int.toNat_natCast, tn1, tn2, tnn, bne_iff_ne, beq_iff_eq, beq_eq_false_iff_ne, ne_eq, Decidable.not_not] at h2)
      refine AWp_skip ?_
      refine AWp_seq ?_
      -- region 7 ref.go:279
      refine AWp_regL ?_
      refine st rfl rfl rfl (op_moveO rfl rfl) ?_
      refine st rfl rfl rfl (op_moveO rfl rfl) ?_
      refine st rfl rfl rfl (op_index_strB rfl Tryd.underlying9 rfl rfl (by omega) (by omega)) ?_
      simp only [Int.toNat_natCast]
      refine st rfl rfl rfl (op_convIn rfl (by rw [Tryd.underlying5]; rfl) Tryd.underlying3 rfl (by first | rfl | exact wrap64_in (by omega) (by omega) | exact wrapu8_in (by omega) (by omega) | (simp only [IntKind.wrap]; omega))) ?_
      refine st rfl rfl rfl (op_assignO rfl rfl) ?_
      refine AOps_nil ?_
      refine AWp_seq ?_
      -- region 8 ref.go:280
      refine AWp_regL ?_
      refine st rfl rfl rfl (op_assignO rfl rfl) ?_
      refine AOps_nil ?_
      refine AWp_join (ι := Unit) (fun b => True) (fun b => ⟨[], [(0, .str s), (1, .int .i64 (a : Int)), (6, .int .i64 v), (7, .int .i64 (i : Int)), (8, .int .i64 ((bat s i).toNat : Int)), (9, .int .i64 (hd1 (bat s i).toNat))]⟩) (fun b => σ) ?_ (fun b hj => ?_)
      · skip
        refine AWp_seq ?_
        -- region 9 ref.go:281
        refine AWp_regL ?_
        refine st rfl rfl rfl (op_moveO rfl rfl) ?_
        refine st rfl rfl rfl (op_geq rfl rfl rfl) ?_
        refine st rfl rfl rfl (op_moveO rfl rfl) ?_
        refine AOps_split 28 rfl (fun h3 => ?_) (fun h3 => ?_)
        · rw [h3]; (try simp only [decide_eq_true_eq, decide_eq_false_iff_not, Bool.not_eq_true', Bool.not_eq_false', Int.not_lt, Int.not_le, Bool.not_true, Bool.not_false, Int.toNat_natCast, tn1, tn2, tnn, bne_iff_ne, beq_iff_eq, beq_eq_false_iff_ne, ne_eq, Decidable.not_not] at h3)
          refine stG rfl rfl rfl rfl rfl rfl (op_moveO rfl rfl) ?_
          refine stG rfl rfl rfl rfl rfl rfl (op_leq rfl rfl rfl) ?_
          refine st rfl rfl rfl (op_pickTO rfl rfl rfl) ?_
          refine AOps_nil ?_
          refine AWp_cond rfl (fun h4 => ?_) (fun h4 => ?_)
          · (try rw [h4]); (try simp only [decide_eq_true_eq, decide_eq_false_iff_not, Bool.not_eq_true', Bool.not_eq_false', Int.not_lt, Int.not_le, Bool.not_true, Bool.not_false, Int.toNat_natCast, tn1, tn2, tnn, bne_iff_ne, beq_iff_eq, beq_eq_false_iff_ne, ne_eq, Decidable.not_not] at h4)
            -- region 10 ref.go:282
            refine AWp_regL ?_
            refine st rfl rfl rfl (op_moveO rfl rfl) ?_
            refine st rfl rfl rfl (op_sub64 rfl rfl rfl (by omega) (by omega)) ?_
            refine st rfl rfl rfl (op_assignO rfl rfl) ?_
            refine AOps_nil ?_
            refine ⟨(), trivial, ⟨rfl, rfl, rfl, rfl, rfl, rfl, ?_, trivial⟩, rfl⟩
            unfold hd1; first | (rw [if_pos (by omega)]; rfl) | (rw [if_neg (by omega)]; rfl)
          · (try rw [h4]); (try simp only [decide_eq_true_eq, decide_eq_false_iff_not, Bool.not_eq_true', Bool.not_eq_false', Int.not_lt, Int.not_le, Bool.not_true, Bool.not_false, Int.toNat_natCast, tn1, tn2, tnn, bne_iff_ne, beq_iff_eq, beq_eq_false_iff_ne, ne_eq, Decidable.not_not] at h4)
            refine AWp_skip ?_
            refine ⟨(), trivial, ⟨rfl, rfl, rfl, rfl, rfl, rfl, ?_, trivial⟩, rfl⟩
            unfold hd1; first | (rw [if_pos (by omega)]; rfl) | (rw [if_neg (by omega)]; rfl)
        · rw [h3]; (try simp only [decide_eq_true_eq, decide_eq_false_iff_not, Bool.not_eq_true', Bool.not_eq_false', Int.not_lt, Int.not_le, Bool.not_true, Bool.not_false, Int.toNat_natCast, tn1, tn2, tnn, bne_iff_ne, beq_iff_eq, beq_eq_false_iff_ne, ne_eq, Decidable.not_not] at h3)
          refine stS rfl rfl rfl (.inl rfl) rfl rfl ?_
          refine stS rfl rfl rfl (.inl rfl) rfl rfl ?_
          refine st rfl rfl rfl (op_pickFO rfl rfl rfl) ?_
          refine AOps_nil ?_
          refine AWp_condF rfl ?_
          refine AWp_skip ?_
          refine ⟨(), trivial, ⟨rfl, rfl, rfl, rfl, rfl, rfl, ?_, trivial⟩, rfl⟩
          unfold hd1; first | (rw [if_pos (by omega)]; rfl) | (rw [if_neg (by omega)]; rfl)
      · skip
        refine AWp_join (ι := Unit) (fun b => True) (fun b => ⟨[], [(0, .str s), (1, .int .i64 (a : Int)), (6, .int .i64 v), (7, .int .i64 (i : Int)), (8, .int .i64 ((bat s i).toNat : Int)), (9, .int .i64 (hd2 (bat s i).toNat))]⟩) (fun b => σ) ?_ (fun b hj => ?_)
        · skip
          refine AWp_seq ?_
          -- region 11 ref.go:284
          refine AWp_regL ?_
          refine st rfl rfl rfl (op_moveO rfl rfl) ?_
          refine st rfl rfl rfl (op_geq rfl rfl rfl) ?_
          refine st rfl rfl rfl (op_moveO rfl rfl) ?_
          refine AOps_split 36 rfl (fun h5 => ?_) (fun h5 => ?_)
          · rw [h5]; (try simp only [decide_eq_true_eq, decide_eq_false_iff_not, Bool.not_eq_true', Bool.not_eq_false', Int.not_lt, Int.not_le, Bool.not_true, Bool.not_false, Int.toNat_natCast, tn1, tn2, tnn, bne_iff_ne, beq_iff_eq, beq_eq_false_iff_ne, ne_eq, Decidable.not_not] at h5)
            refine stG rfl rfl rfl rfl rfl rfl (op_moveO rfl rfl) ?_
            refine stG rfl rfl rfl rfl rfl rfl (op_leq rfl rfl rfl) ?_
            refine st rfl rfl rfl (op_pickTO rfl rfl rfl) ?_
            refine AOps_nil ?_
            refine AWp_cond rfl (fun h6 => ?_) (fun h6 => ?_)
            · (try rw [h6]); (try simp only [decide_eq_true_eq, decide_eq_false_iff_not, Bool.not_eq_true', Bool.not_eq_false', Int.not_lt, Int.not_le, Bool.not_true, Bool.not_false, Int.toNat_natCast, tn1, tn2, tnn, bne_iff_ne, beq_iff_eq, beq_eq_false_iff_ne, ne_eq, Decidable.not_not] at h6)
              -- region 12 ref.go:285
              refine AWp_regL ?_
              refine st rfl rfl rfl (op_moveO rfl rfl) ?_
              refine st rfl rfl rfl (op_sub64 rfl rfl rfl (by omega) (by omega)) ?_
              refine st rfl rfl rfl (op_assignO rfl rfl) ?_
              refine AOps_nil ?_
              refine ⟨(), trivial, ⟨rfl, rfl, rfl, rfl, rfl, rfl, ?_, trivial⟩, rfl⟩
              unfold hd2; first | (rw [if_pos (by omega)]; rfl) | (rw [if_neg (by omega)]; rfl)
            · (try rw [h6]); (try simp only [decide_eq_true_eq, decide_eq_false_iff_not, Bool.not_eq_true', Bool.not_eq_false', Int.not_lt, Int.not_le, Bool.not_true, Bool.not_false, Int.toNat_natCast, tn1, tn2, tnn, bne_iff_ne, beq_iff_eq, beq_eq_false_iff_ne, ne_eq, Decidable.not_not] at h6)
              refine AWp_skip ?_
              refine ⟨(), trivial, ⟨rfl, rfl, rfl, rfl, rfl, rfl, ?_, trivial⟩, rfl⟩
              unfold hd2; first | (rw [if_pos (by omega)]; rfl) | (rw [if_neg (by omega)]; rfl)
          · rw [h5]; (try simp only [decide_eq_true_eq, decide_eq_false_iff_not, Bool.not_eq_true', Bool.not_eq_false', Int.not_lt, Int.not_le, Bool.not_true, Bool.not_false, Int.toNat_natCast, tn1, tn2, tnn, bne_iff_ne, beq_iff_eq, beq_eq_false_iff_ne, ne_eq, Decidable.not_not] at h5)
            refine stS rfl rfl rfl (.inl rfl) rfl rfl ?_
            refine stS rfl rfl rfl (.inl rfl) rfl rfl ?_
            refine st rfl rfl rfl (op_pickFO rfl rfl rfl) ?_
            refine AOps_nil ?_
            refine AWp_condF rfl ?_
            refine AWp_skip ?_
            refine ⟨(), trivial, ⟨rfl, rfl, rfl, rfl, rfl, rfl, ?_, trivial⟩, rfl⟩
            unfold hd2; first | (rw [if_pos (by omega)]; rfl) | (rw [if_neg (by omega)]; rfl)
        · skip
          refine AWp_join (ι := Unit) (fun b => True) (fun b => ⟨[], [(0, .str s), (1, .int .i64 (a : Int)), (6, .int .i64 v), (7, .int .i64 (i : Int)), (8, .int .i64 ((bat s i).toNat : Int)), (9, .int .i64 (hexd (bat s i).toNat))]⟩) (fun b => σ) ?_ (fun b hj => ?_)
          · skip
            refine AWp_seq ?_
            -- region 13 ref.go:287
            refine AWp_regL ?_
            refine st rfl rfl rfl (op_moveO rfl rfl) ?_
            refine st rfl rfl rfl (op_geq rfl rfl rfl) ?_
            refine st rfl rfl rfl (op_moveO rfl rfl) ?_
            refine AOps_split 44 rfl (fun h7 => ?_) (fun h7 => ?_)
            · rw [h7]; (try simp only [decide_eq_true_eq, decide_eq_false_iff_not, Bool.not_eq_true', Bool.not_eq_false', Int.not_lt, Int.not_le, Bool.not_true, Bool.not_false, Int.toNat_natCast, tn1, tn2, tnn, bne_iff_ne, beq_iff_eq, beq_eq_false_iff_ne, ne_eq, Decidable.not_not] at h7)
              refine stG rfl rfl rfl rfl rfl rfl (op_moveO rfl rfl) ?_
              refine stG rfl rfl rfl rfl rfl rfl (op_leq rfl rfl rfl) ?_
              refine st rfl rfl rfl (op_pickTO rfl rfl rfl) ?_
              refine AOps_nil ?_
              refine AWp_cond rfl (fun h8 => ?_) (fun h8 => ?_)
              · (try rw [h8]); (try simp only [decide_eq_true_eq, decide_eq_false_iff_not, Bool.not_eq_true', Bool.not_eq_false', Int.not_lt, Int.not_le, Bool.not_true, Bool.not_false, Int.toNat_natCast, tn1, tn2, tnn, bne_iff_ne, beq_iff_eq, beq_eq_false_iff_ne, ne_eq, Decidable.not_not] at h8)
                -- region 14 ref.go:288
                refine AWp_regL ?_
                refine st rfl rfl rfl (op_moveO rfl rfl) ?_
                refine st rfl rfl rfl (op_sub64 rfl rfl rfl (by omega) (by omega)) ?_
                refine st rfl rfl rfl (op_assignO rfl rfl) ?_
                refine AOps_nil ?_
                refine ⟨(), trivial, ⟨rfl, rfl, rfl, rfl, rfl, rfl, ?_, trivial⟩, rfl⟩
                unfold hexd; first | (rw [if_pos (by omega)]; rfl) | (rw [if_neg (by omega)]; rfl)
              · (try rw [h8]); (try simp only [decide_eq_true_eq, decide_eq_false_iff_not, Bool.not_eq_true', Bool.not_eq_false', Int.not_lt, Int.not_le, Bool.not_true, Bool.not_false, Int.toNat_natCast, tn1, tn2, tnn, bne_iff_ne, beq_iff_eq, beq_eq_false_iff_ne, ne_eq, Decidable.not_not] at h8)
                refine AWp_skip ?_
                refine ⟨(), trivial, ⟨rfl, rfl, rfl, rfl, rfl, rfl, ?_, trivial⟩, rfl⟩
                unfold hexd; first | (rw [if_pos (by omega)]; rfl) | (rw [if_neg (by omega)]; rfl)
            · rw [h7]; (try simp only [decide_eq_true_eq, decide_eq_false_iff_not, Bool.not_eq_true', Bool.not_eq_false', Int.not_lt, Int.not_le, Bool.not_true, Bool.not_false, Int.toNat_natCast, tn1, tn2, tnn, bne_iff_ne, beq_iff_eq, beq_eq_false_iff_ne, ne_eq, Decidable.not_not] at h7)
              refine stS rfl rfl rfl (.inl rfl) rfl rfl ?_
              refine stS rfl rfl rfl (.inl rfl) rfl rfl ?_
              refine st rfl rfl rfl (op_pickFO rfl rfl rfl) ?_
              refine AOps_nil ?_
              refine AWp_condF rfl ?_
              refine AWp_skip ?_
              refine ⟨(), trivial, ⟨rfl, rfl, rfl, rfl, rfl, rfl, ?_, trivial⟩, rfl⟩
              unfold hexd; first | (rw [if_pos (by omega)]; rfl) | (rw [if_neg (by omega)]; rfl)
          · skip
            have hdd := hexd_lt (bat s i).toNat
            refine AWp_seq ?_
            refine AWp_seq ?_
            -- region 15 ref.go:290
            refine AWp_regL ?_
            refine st rfl rfl rfl (op_moveO rfl rfl) ?_
            refine st rfl rfl rfl (op_lss rfl rfl rfl) ?_
            refine AOps_nil ?_
            refine AWp_cond rfl (fun h9 => ?_) (fun h9 => ?_)
            · (try rw [h9]); (try simp only [decide_eq_true_eq, decide_eq_false_iff_not, Bool.not_eq_true', Bool.not_eq_false', Int.not_lt, Int.not_le, Bool.not_true, Bool.not_false, Int.toNat_natCast, tn1, tn2, tnn, bne_iff_ne, beq_iff_eq, beq_eq_false_iff_ne, ne_eq, Decidable.not_not] at h9)
              refine AWp_seq ?_
              -- region 16 ref.go:291
              refine AWp_regL ?_
              refine st rfl rfl rfl (op_moveO rfl rfl) ?_
              refine st rfl rfl rfl (op_assignO rfl rfl) ?_
              refine st rfl rfl rfl (op_assignO rfl rfl) ?_
              refine AOps_nil ?_
              refine AWp_ret ?_
              (try simp only [blockQ, thenQ])
              first | (have hE : rhex s a = (0, (i : Int)) := by rw [← hq1, hexF.eq_1 s i, if_pos (by omega)]; first | (rw [if_pos (by omega)]; done) | (rw [if_neg (by omega), if_pos (by omega)]; done)); rw [hE]; exact ResQ_20 rfl rfl hcl (by simp [AV.lt, AV.ltL]) (Ret_of rfl) | (have hE : rhex s a = (v, -1) := by rw [← hq1, hexF.eq_1 s i, if_neg (by omega)]); rw [hE]; exact ResQ_20 rfl rfl hcl (by simp [AV.lt, AV.ltL]) (Ret_of rfl)
            · (try rw [h9]); (try simp only [decide_eq_true_eq, decide_eq_false_iff_not, Bool.not_eq_true', Bool.not_eq_false', Int.not_lt, Int.not_le, Bool.not_true, Bool.not_false, Int.toNat_natCast, tn1, tn2, tnn, bne_iff_ne, beq_iff_eq, beq_eq_false_iff_ne, ne_eq, Decidable.not_not] at h9)
              refine AWp_skip ?_
              -- region 17 ref.go:293
              refine AWp_regL ?_
              refine st rfl rfl rfl (op_moveO rfl rfl) ?_
              refine st rfl rfl rfl (op_mul64 rfl rfl rfl (by omega) (by omega)) ?_
              refine st rfl rfl rfl (op_moveO rfl rfl) ?_
              refine st rfl rfl rfl (op_add64 rfl rfl rfl (by omega) (by omega)) ?_
              refine st rfl rfl rfl (op_assignO rfl rfl) ?_
              refine AOps_nil ?_
              -- region 4 ref.go:275
              refine AWp_regL ?_
              refine st rfl rfl rfl (op_moveO rfl rfl) ?_
              refine st rfl rfl rfl (op_add64 rfl rfl rfl (by omega) (by omega)) ?_
              refine st rfl rfl rfl (op_assignO rfl rfl) ?_
              refine AOps_nil ?_
              refine ⟨(i + 1, 16 * v + hexd (bat s i).toNat), σ.length, ⟨?_, ?_, ?_, ?_⟩, ?_, Nat.le_refl _, ⟨rfl, rfl, rfl, rfl, rfl, trivial⟩, hcl, ?_, List.take_length⟩
              · rw [← hq1, hexF.eq_1 s i, if_pos (by omega), if_neg (by omega), if_neg (by omega)]
              · simp only; omega
              · simp only; omega
              · simp only; omega
              · simp only; omega
              · simp [ltE, AV.lt]
  · (try rw [h1]); (try simp only [decide_eq_true_eq, decide_eq_false_iff_not, Bool.not_eq_true', Bool.not_eq_false', Int.not_lt, Int.not_le, Bool.not_true, Bool.not_false, Int.toNat_natCast, tn1, tn2, tnn, bne_iff_ne, beq_iff_eq, beq_eq_false_iff_ne, ne_eq, Decidable.not_not] at h1)
    refine AWp_exit ?_
    refine AWp_seq ?_
    -- region 18 ref.go:295
    refine AWp_regL ?_
    refine st rfl rfl rfl (op_moveO rfl rfl) ?_
    refine st rfl rfl rfl (op_assignO rfl rfl) ?_
    refine st rfl rfl rfl (op_assignO rfl rfl) ?_
    refine AOps_nil ?_
    refine AWp_ret ?_
    (try simp only [blockQ, thenQ])
    first | (have hE : rhex s a = (0, (i : Int)) := by rw [← hq1, hexF.eq_1 s i, if_pos (by omega)]; first | (rw [if_pos (by omega)]; done) | (rw [if_neg (by omega), if_pos (by omega)]; done)); rw [hE]; exact ResQ_20 rfl rfl hcl (by simp [AV.lt, AV.ltL]) (Ret_of rfl) | (have hE : rhex s a = (v, -1) := by rw [← hq1, hexF.eq_1 s i, if_neg (by omega)]); rw [hE]; exact ResQ_20 rfl rfl hcl (by simp [AV.lt, AV.ltL]) (Ret_of rfl)

theorem low_c (s : ByteArray) (a : Nat) (σ : List AO) (hs : s.size ≤ 1000000) (ha : a ≤ 2000000) : ACalls Tryd.prog 45 [.str s, .int .i64 (a : Int)] σ (Ret (.int .i64 (rlow s a)) σ) := by
  refine ACalls_body Tryd.func45 rfl Tryd.ntmps45 (res1 Tryd.results45) (Nat.le_of_ble_eq_true rfl) (fun hcl hal => ?_)
  have hh := rhex_ok s (a + 2)
  refine AWp_seq ?_
  -- region 0 ref.go:299
  refine AWp_regL ?_
  refine st rfl rfl rfl (op_assignO rfl rfl) ?_
  refine AOps_nil ?_
  refine AWp_seq ?_
  refine AWp_seq ?_
  -- region 1 ref.go:300
  refine AWp_regL ?_
  refine st rfl rfl rfl (op_moveO rfl rfl) ?_
  refine st rfl rfl rfl (op_add64 rfl rfl rfl (by omega) (by omega)) ?_
  refine st rfl rfl rfl (op_moveO rfl rfl) ?_
  refine st rfl rfl rfl (op_lenStr rfl rfl Tryd.underlying9 rfl) ?_
  refine st rfl rfl rfl (op_gtr rfl rfl rfl) ?_
  refine AOps_nil ?_
  refine AWp_cond rfl (fun h1 => ?_) (fun h1 => ?_)
  · (try rw [h1]); (try simp only [decide_eq_true_eq, decide_eq_false_iff_not, Bool.not_eq_true', Bool.not_eq_false', Int.not_lt, Int.not_le, Bool.not_true, Bool.not_false, Int.toNat_natCast, tn1, tn2, tnn, bne_iff_ne, beq_iff_eq, beq_eq_false_iff_ne, ne_eq, Decidable.not_not] at h1)
    refine AWp_seq ?_
    -- region 2 ref.go:301
    refine AWp_regL ?_
    refine st rfl rfl rfl (op_assignO rfl rfl) ?_
    refine AOps_nil ?_
    refine AWp_ret ?_
    (try simp only [blockQ, thenQ])
    refine ResQ_10 rfl hcl (by simp [AV.lt, AV.ltL]) (Ret_of ?_)
    congr 1; unfold rlow; first | (rw [if_pos (by omega)]; done) | (rw [if_neg (by omega), if_pos (by omega)]; done) | (rw [if_neg (by omega), if_neg (by omega), if_pos (by omega)]; done) | (rw [if_neg (by omega), if_neg (by omega), if_neg (by omega)]; done)
  · (try rw [h1]); (try simp only [decide_eq_true_eq, decide_eq_false_iff_not, Bool.not_eq_true', Bool.not_eq_false', Int.not_lt, Int.not_le, Bool.not_true, Bool.not_false, Int.toNat_natCast, tn1, tn2, tnn, bne_iff_ne, beq_iff_eq, beq_eq_false_iff_ne, ne_eq, Decidable.not_not] at h1)
    refine AWp_skip ?_
    refine AWp_seq ?_
    refine AWp_seq ?_
    -- region 3 ref.go:303
    refine AWp_regL ?_
    refine st rfl rfl rfl (op_moveO rfl rfl) ?_
    refine st rfl rfl rfl (op_moveO rfl rfl) ?_
    refine st rfl rfl rfl (op_index_strB rfl Tryd.underlying9 rfl rfl (by omega) (by omega)) ?_
    refine st rfl rfl rfl (op_neq rfl rfl rfl) ?_
    refine st rfl rfl rfl (op_moveO rfl rfl) ?_
    refine AOps_split 16 rfl (fun h2 => ?_) (fun h2 => ?_)
    · rw [h2]; (try simp only [decide_eq_true_eq, decide_eq_false_iff_not, Bool.not_eq_true', Bool.not_eq_false', Int.not_lt, Int.not_le, Bool.not_true, Bool.not_false, Int.toNat_natCast, tn1, tn2, tnn, bne_iff_ne, beq_iff_eq, beq_eq_false_iff_ne, ne_eq, Decidable.not_not] at h2)
      refine stS rfl rfl rfl (.inl rfl) rfl rfl ?_
      refine stS rfl rfl rfl (.inl rfl) rfl rfl ?_
      refine stS rfl rfl rfl (.inl rfl) rfl rfl ?_
      refine stS rfl rfl rfl (.inl rfl) rfl rfl ?_
      refine stS rfl rfl rfl (.inl rfl) rfl rfl ?_
      refine st rfl rfl rfl (op_pickTO rfl rfl rfl) ?_
      refine AOps_nil ?_
      refine AWp_condT rfl ?_
      refine AWp_seq ?_
      -- region 4 ref.go:304
      refine AWp_regL ?_
      refine st rfl rfl rfl (op_assignO rfl rfl) ?_
      refine AOps_nil ?_
      refine AWp_ret ?_
      (try simp only [blockQ, thenQ])
      refine ResQ_10 rfl hcl (by simp [AV.lt, AV.ltL]) (Ret_of ?_)
      congr 1; unfold rlow; first | (rw [if_pos (by omega)]; done) | (rw [if_neg (by omega), if_pos (by omega)]; done) | (rw [if_neg (by omega), if_neg (by omega), if_pos (by omega)]; done) | (rw [if_neg (by omega), if_neg (by omega), if_neg (by omega)]; done)
    · rw [h2]; (try simp only [decide_eq_true_eq, decide_eq_false_iff_not, Bool.not_eq_true', Bool.not_eq_false', Int.not_lt, Int.not_le, Bool.not_true, Bool.not_false, Int.toNat_natCast, tn1, tn2, tnn, bne_iff_ne, beq_iff_eq, beq_eq_false_iff_ne, ne_eq, Decidable.not_not] at h2)
      refine stG rfl rfl rfl rfl rfl rfl (op_moveO rfl rfl) ?_
      refine stG rfl rfl rfl rfl rfl rfl (op_moveO rfl rfl) ?_
      refine stG rfl rfl rfl rfl rfl rfl (op_add64 rfl rfl rfl (by omega) (by omega)) ?_
      refine stG rfl rfl rfl rfl rfl rfl (op_index_strB rfl Tryd.underlying9 rfl rfl (by omega) (by omega)) ?_
      refine stG rfl rfl rfl rfl rfl rfl (op_neq rfl rfl rfl) ?_
      refine st rfl rfl rfl (op_pickFO rfl rfl rfl) ?_
      refine AOps_nil ?_
      refine AWp_cond rfl (fun h3 => ?_) (fun h3 => ?_)
      · (try rw [h3]); (try simp only [decide_eq_true_eq, decide_eq_false_iff_not, Bool.not_eq_true', Bool.not_eq_false', Int.not_lt, Int.not_le, Bool.not_true, Bool.not_false, Int.toNat_natCast, tn1, tn2, tnn, bne_iff_ne, beq_iff_eq, beq_eq_false_iff_ne, ne_eq, Decidable.not_not] at h3)
        refine AWp_seq ?_
        -- region 4 ref.go:304
        refine AWp_regL ?_
        refine st rfl rfl rfl (op_assignO rfl rfl) ?_
        refine AOps_nil ?_
        refine AWp_ret ?_
        (try simp only [blockQ, thenQ])
        refine ResQ_10 rfl hcl (by simp [AV.lt, AV.ltL]) (Ret_of ?_)
        congr 1; unfold rlow; first | (rw [if_pos (by omega)]; done) | (rw [if_neg (by omega), if_pos (by omega)]; done) | (rw [if_neg (by omega), if_neg (by omega), if_pos (by omega)]; done) | (rw [if_neg (by omega), if_neg (by omega), if_neg (by omega)]; done)
      · (try rw [h3]); (try simp only [decide_eq_true_eq, decide_eq_false_iff_not, Bool.not_eq_true', Bool.not_eq_false', Int.not_lt, Int.not_le, Bool.not_true, Bool.not_false, Int.toNat_natCast, tn1, tn2, tnn, bne_iff_ne, beq_iff_eq, beq_eq_false_iff_ne, ne_eq, Decidable.not_not] at h3)
        refine AWp_skip ?_
        refine AWp_seq ?_
        -- region 5 ref.go:306
        refine AWp_regL ?_
        refine st rfl rfl rfl (op_moveO rfl rfl) ?_
        refine st rfl rfl rfl (op_moveO rfl rfl) ?_
        refine st rfl rfl rfl (op_add64 rfl rfl rfl (by omega) (by omega)) ?_
        refine st rfl rfl rfl (op_callF rfl rfl rfl Tryd.func44 rfl rfl (hex_c s (a + 2) _ hs (by omega))) ?_
        refine st rfl rfl rfl (op_moveO rfl rfl) ?_
        refine st rfl rfl rfl (op_extract rfl rfl rfl) ?_
        refine st rfl rfl rfl (op_extract rfl rfl rfl) ?_
        refine st rfl rfl rfl (op_assignO rfl rfl) ?_
        refine st rfl rfl rfl (op_assignO rfl rfl) ?_
        refine AOps_nil ?_
        refine AWp_seq ?_
        refine AWp_seq ?_
        -- region 6 ref.go:307
        refine AWp_regL ?_
        refine st rfl rfl rfl (op_moveO rfl rfl) ?_
        refine st rfl rfl rfl (op_geq rfl rfl rfl) ?_
        refine st rfl rfl rfl (op_moveO rfl rfl) ?_
        refine AOps_split 32 rfl (fun h4 => ?_) (fun h4 => ?_)
        · rw [h4]; (try simp only [decide_eq_true_eq, decide_eq_false_iff_not, Bool.not_eq_true', Bool.not_eq_false', Int.not_lt, Int.not_le, Bool.not_true, Bool.not_false, Int.toNat_natCast, tn1, tn2, tnn, bne_iff_ne, beq_iff_eq, beq_eq_false_iff_ne, ne_eq, Decidable.not_not] at h4)
          refine stS rfl rfl rfl (.inl rfl) rfl rfl ?_
          refine stS rfl rfl rfl (.inl rfl) rfl rfl ?_
          refine st rfl rfl rfl (op_pickTO rfl rfl rfl) ?_
          refine st rfl rfl rfl (op_moveO rfl rfl) ?_
          refine stS rfl rfl rfl (.inl rfl) rfl rfl ?_
          refine stS rfl rfl rfl (.inl rfl) rfl rfl ?_
          refine st rfl rfl rfl (op_pickTO rfl rfl rfl) ?_
          refine AOps_nil ?_
          refine AWp_condT rfl ?_
          refine AWp_seq ?_
          -- region 7 ref.go:308
          refine AWp_regL ?_
          refine st rfl rfl rfl (op_assignO rfl rfl) ?_
          refine AOps_nil ?_
          refine AWp_ret ?_
          (try simp only [blockQ, thenQ])
          refine ResQ_10 rfl hcl (by simp [AV.lt, AV.ltL]) (Ret_of ?_)
          congr 1; unfold rlow; first | (rw [if_pos (by omega)]; done) | (rw [if_neg (by omega), if_pos (by omega)]; done) | (rw [if_neg (by omega), if_neg (by omega), if_pos (by omega)]; done) | (rw [if_neg (by omega), if_neg (by omega), if_neg (by omega)]; done)
        · rw [h4]; (try simp only [decide_eq_true_eq, decide_eq_false_iff_not, Bool.not_eq_true', Bool.not_eq_false', Int.not_lt, Int.not_le, Bool.not_true, Bool.not_false, Int.toNat_natCast, tn1, tn2, tnn, bne_iff_ne, beq_iff_eq, beq_eq_false_iff_ne, ne_eq, Decidable.not_not] at h4)
          refine stG rfl rfl rfl rfl rfl rfl (op_moveO rfl rfl) ?_
          refine stG rfl rfl rfl rfl rfl rfl (op_lss rfl rfl rfl) ?_
          refine st rfl rfl rfl (op_pickFO rfl rfl rfl) ?_
          refine st rfl rfl rfl (op_moveO rfl rfl) ?_
          refine AOps_split 36 rfl (fun h5 => ?_) (fun h5 => ?_)
          · rw [h5]; (try simp only [decide_eq_true_eq, decide_eq_false_iff_not, Bool.not_eq_true', Bool.not_eq_false', Int.not_lt, Int.not_le, Bool.not_true, Bool.not_false, Int.toNat_natCast, tn1, tn2, tnn, bne_iff_ne, beq_iff_eq, beq_eq_false_iff_ne, ne_eq, Decidable.not_not] at h5)
            refine stS rfl rfl rfl (.inl rfl) rfl rfl ?_
            refine stS rfl rfl rfl (.inl rfl) rfl rfl ?_
            refine st rfl rfl rfl (op_pickTO rfl rfl rfl) ?_
            refine AOps_nil ?_
            refine AWp_condT rfl ?_
            refine AWp_seq ?_
            -- region 7 ref.go:308
            refine AWp_regL ?_
            refine st rfl rfl rfl (op_assignO rfl rfl) ?_
            refine AOps_nil ?_
            refine AWp_ret ?_
            (try simp only [blockQ, thenQ])
            refine ResQ_10 rfl hcl (by simp [AV.lt, AV.ltL]) (Ret_of ?_)
            congr 1; unfold rlow; first | (rw [if_pos (by omega)]; done) | (rw [if_neg (by omega), if_pos (by omega)]; done) | (rw [if_neg (by omega), if_neg (by omega), if_pos (by omega)]; done) | (rw [if_neg (by omega), if_neg (by omega), if_neg (by omega)]; done)
          · rw [h5]; (try simp only [decide_eq_true_eq, decide_eq_false_iff_not, Bool.not_eq_true', Bool.not_eq_false', Int.not_lt, Int.not_le, Bool.not_true, Bool.not_false, Int.toNat_natCast, tn1, tn2, tnn, bne_iff_ne, beq_iff_eq, beq_eq_false_iff_ne, ne_eq, Decidable.not_not] at h5)
            refine stG rfl rfl rfl rfl rfl rfl (op_moveO rfl rfl) ?_
            refine stG rfl rfl rfl rfl rfl rfl (op_geq rfl rfl rfl) ?_
            refine st rfl rfl rfl (op_pickFO rfl rfl rfl) ?_
            refine AOps_nil ?_
            refine AWp_cond rfl (fun h6 => ?_) (fun h6 => ?_)
            · (try rw [h6]); (try simp only [decide_eq_true_eq, decide_eq_false_iff_not, Bool.not_eq_true', Bool.not_eq_false', Int.not_lt, Int.not_le, Bool.not_true, Bool.not_false, Int.toNat_natCast, tn1, tn2, tnn, bne_iff_ne, beq_iff_eq, beq_eq_false_iff_ne, ne_eq, Decidable.not_not] at h6)
              refine AWp_seq ?_
              -- region 7 ref.go:308
              refine AWp_regL ?_
              refine st rfl rfl rfl (op_assignO rfl rfl) ?_
              refine AOps_nil ?_
              refine AWp_ret ?_
              (try simp only [blockQ, thenQ])
              refine ResQ_10 rfl hcl (by simp [AV.lt, AV.ltL]) (Ret_of ?_)
              congr 1; unfold rlow; first | (rw [if_pos (by omega)]; done) | (rw [if_neg (by omega), if_pos (by omega)]; done) | (rw [if_neg (by omega), if_neg (by omega), if_pos (by omega)]; done) | (rw [if_neg (by omega), if_neg (by omega), if_neg (by omega)]; done)
            · (try rw [h6]); (try simp only [decide_eq_true_eq, decide_eq_false_iff_not, Bool.not_eq_true', Bool.not_eq_false', Int.not_lt, Int.not_le, Bool.not_true, Bool.not_false, Int.toNat_natCast, tn1, tn2, tnn, bne_iff_ne, beq_iff_eq, beq_eq_false_iff_ne, ne_eq, Decidable.not_not] at h6)
              refine AWp_skip ?_
              refine AWp_seq ?_
              -- region 8 ref.go:310
              refine AWp_regL ?_
              refine st rfl rfl rfl (op_moveO rfl rfl) ?_
              refine st rfl rfl rfl (op_assignO rfl rfl) ?_
              refine AOps_nil ?_
              refine AWp_ret ?_
              (try simp only [blockQ, thenQ])
              refine ResQ_10 rfl hcl (by simp [AV.lt, AV.ltL]) (Ret_of ?_)
              congr 1; unfold rlow; first | (rw [if_pos (by omega)]; done) | (rw [if_neg (by omega), if_pos (by omega)]; done) | (rw [if_neg (by omega), if_neg (by omega), if_pos (by omega)]; done) | (rw [if_neg (by omega), if_neg (by omega), if_neg (by omega)]; done)

theorem char_c (v : Int) (σ : List AO) (h0 : 0 ≤ v) (h1 : v < 1114112) : ACalls Tryd.prog 46 [.int .i64 v] σ (Ret (.str (rchar v)) σ) := by
  refine ACalls_body Tryd.func46 rfl Tryd.ntmps46 (res1 Tryd.results46) (Nat.le_of_ble_eq_true rfl) (fun hcl hal => ?_)
  refine AWp_seq ?_
  -- region 0 ref.go:259
  refine AWp_regL ?_
  refine st rfl rfl rfl (op_assignO rfl rfl) ?_
  refine AOps_nil ?_
  refine AWp_seq ?_
  refine AWp_seq ?_
  -- region 1 ref.go:260
  refine AWp_regL ?_
  refine st rfl rfl rfl (op_moveO rfl rfl) ?_
  refine st rfl rfl rfl (op_lss rfl rfl rfl) ?_
  refine AOps_nil ?_
  refine AWp_cond rfl (fun h1 => ?_) (fun h1 => ?_)
  · (try rw [h1]); (try simp only [decide_eq_true_eq, decide_eq_false_iff_not, Bool.not_eq_true', Bool.not_eq_false', Int.not_lt, Int.not_le, Bool.not_true, Bool.not_false, Int.toNat_natCast, bne_iff_ne, beq_iff_eq, beq_eq_false_iff_ne, ne_eq, Decidable.not_not] at h1)
    refine AWp_seq ?_
    -- region 2 ref.go:261
    refine AWp_regL ?_
    refine st rfl rfl rfl (op_moveO rfl rfl) ?_
    refine st rfl rfl rfl (op_convIn rfl (by rw [Tryd.underlying3]; rfl) Tryd.underlying5 rfl (by first | rfl | exact wrap64_in (by omega) (by omega) | exact wrapu8_in (by omega) (by omega) | (simp only [IntKind.wrap]; omega))) ?_
    refine st rfl rfl rfl (op_buildSlice [[_]] rfl Tryd.underlying64 Tryd.sizeOf5 Tryd.zeroValue5 rfl (by decide) (by decide) rfl rfl rfl rfl rfl) ?_
    refine st rfl rfl rfl (op_bytesStr (b := _) (m := 1) rfl Tryd.underlying64 Tryd.underlying5 Tryd.underlying9 (bs1 ⟨by omega, by omega⟩) rfl rfl) ?_
    refine st rfl rfl rfl (op_assignO rfl rfl) ?_
    refine AOps_nil ?_
    refine AWp_ret ?_
    (try simp only [blockQ, thenQ])
    refine ResQ_10 rfl hcl (by simp [AV.lt, AV.ltL]) (Ret_of ?_)
    congr 1; unfold rchar; first | (rw [if_pos (by omega)]; done) | (rw [if_neg (by omega), if_pos (by omega)]; done) | (rw [if_neg (by omega), if_neg (by omega), if_pos (by omega)]; done) | (rw [if_neg (by omega), if_neg (by omega), if_neg (by omega)]; done)
  · (try rw [h1]); (try simp only [decide_eq_true_eq, decide_eq_false_iff_not, Bool.not_eq_true', Bool.not_eq_false', Int.not_lt, Int.not_le, Bool.not_true, Bool.not_false, Int.toNat_natCast, bne_iff_ne, beq_iff_eq, beq_eq_false_iff_ne, ne_eq, Decidable.not_not] at h1)
    refine AWp_skip ?_
    refine AWp_seq ?_
    refine AWp_seq ?_
    -- region 3 ref.go:263
    refine AWp_regL ?_
    refine st rfl rfl rfl (op_moveO rfl rfl) ?_
    refine st rfl rfl rfl (op_lss rfl rfl rfl) ?_
    refine AOps_nil ?_
    refine AWp_cond rfl (fun h2 => ?_) (fun h2 => ?_)
    · (try rw [h2]); (try simp only [decide_eq_true_eq, decide_eq_false_iff_not, Bool.not_eq_true', Bool.not_eq_false', Int.not_lt, Int.not_le, Bool.not_true, Bool.not_false, Int.toNat_natCast, bne_iff_ne, beq_iff_eq, beq_eq_false_iff_ne, ne_eq, Decidable.not_not] at h2)
      refine AWp_seq ?_
      -- region 4 ref.go:264
      refine AWp_regL ?_
      refine st rfl rfl rfl (op_moveO rfl rfl) ?_
      refine st rfl rfl rfl (op_quo64 rfl rfl rfl (by omega) (by omega) (by omega)) ?_
      refine st rfl rfl rfl (op_add64 rfl rfl rfl (by omega) (by omega)) ?_
      refine st rfl rfl rfl (op_convIn rfl (by rw [Tryd.underlying3]; rfl) Tryd.underlying5 rfl (by first | rfl | exact wrap64_in (by omega) (by omega) | exact wrapu8_in (by omega) (by omega) | (simp only [IntKind.wrap]; omega))) ?_
      refine st rfl rfl rfl (op_moveO rfl rfl) ?_
      refine st rfl rfl rfl (op_rem64 rfl rfl rfl (by omega) (by omega)) ?_
      refine st rfl rfl rfl (op_add64 rfl rfl rfl (by omega) (by omega)) ?_
      refine st rfl rfl rfl (op_convIn rfl (by rw [Tryd.underlying3]; rfl) Tryd.underlying5 rfl (by first | rfl | exact wrap64_in (by omega) (by omega) | exact wrapu8_in (by omega) (by omega) | (simp only [IntKind.wrap]; omega))) ?_
      refine st rfl rfl rfl (op_buildSlice [[_], [_]] rfl Tryd.underlying64 Tryd.sizeOf5 Tryd.zeroValue5 rfl (by decide) (by decide) rfl rfl rfl rfl rfl) ?_
      refine st rfl rfl rfl (op_bytesStr (b := _) (m := 2) rfl Tryd.underlying64 Tryd.underlying5 Tryd.underlying9 (bs2 ⟨by omega, by omega⟩ ⟨by omega, by omega⟩) rfl rfl) ?_
      refine st rfl rfl rfl (op_assignO rfl rfl) ?_
      refine AOps_nil ?_
      refine AWp_ret ?_
      (try simp only [blockQ, thenQ])
      refine ResQ_10 rfl hcl (by simp [AV.lt, AV.ltL]) (Ret_of ?_)
      congr 1; unfold rchar; first | (rw [if_pos (by omega)]; done) | (rw [if_neg (by omega), if_pos (by omega)]; done) | (rw [if_neg (by omega), if_neg (by omega), if_pos (by omega)]; done) | (rw [if_neg (by omega), if_neg (by omega), if_neg (by omega)]; done)
    · (try rw [h2]); (try simp only [decide_eq_true_eq, decide_eq_false_iff_not, Bool.not_eq_true', Bool.not_eq_false', Int.not_lt, Int.not_le, Bool.not_true, Bool.not_false, Int.toNat_natCast, bne_iff_ne, beq_iff_eq, beq_eq_false_iff_ne, ne_eq, Decidable.not_not] at h2)
      refine AWp_skip ?_
      refine AWp_seq ?_
      refine AWp_seq ?_
      -- region 5 ref.go:266
      refine AWp_regL ?_
      refine st rfl rfl rfl (op_moveO rfl rfl) ?_
      refine st rfl rfl rfl (op_lss rfl rfl rfl) ?_
      refine AOps_nil ?_
      refine AWp_cond rfl (fun h3 => ?_) (fun h3 => ?_)
      · (try rw [h3]); (try simp only [decide_eq_true_eq, decide_eq_false_iff_not, Bool.not_eq_true', Bool.not_eq_false', Int.not_lt, Int.not_le, Bool.not_true, Bool.not_false, Int.toNat_natCast, bne_iff_ne, beq_iff_eq, beq_eq_false_iff_ne, ne_eq, Decidable.not_not] at h3)
        refine AWp_seq ?_
        -- region 6 ref.go:267
        refine AWp_regL ?_
        refine st rfl rfl rfl (op_moveO rfl rfl) ?_
        refine st rfl rfl rfl (op_quo64 rfl rfl rfl (by omega) (by omega) (by omega)) ?_
        refine st rfl rfl rfl (op_add64 rfl rfl rfl (by omega) (by omega)) ?_
        refine st rfl rfl rfl (op_convIn rfl (by rw [Tryd.underlying3]; rfl) Tryd.underlying5 rfl (by first | rfl | exact wrap64_in (by omega) (by omega) | exact wrapu8_in (by omega) (by omega) | (simp only [IntKind.wrap]; omega))) ?_
        refine st rfl rfl rfl (op_moveO rfl rfl) ?_
        refine st rfl rfl rfl (op_quo64 rfl rfl rfl (by omega) (by omega) (by omega)) ?_
        refine st rfl rfl rfl (op_rem64 rfl rfl rfl (by omega) (by omega)) ?_
        refine st rfl rfl rfl (op_add64 rfl rfl rfl (by omega) (by omega)) ?_
        refine st rfl rfl rfl (op_convIn rfl (by rw [Tryd.underlying3]; rfl) Tryd.underlying5 rfl (by first | rfl | exact wrap64_in (by omega) (by omega) | exact wrapu8_in (by omega) (by omega) | (simp only [IntKind.wrap]; omega))) ?_
        refine st rfl rfl rfl (op_moveO rfl rfl) ?_
        refine st rfl rfl rfl (op_rem64 rfl rfl rfl (by omega) (by omega)) ?_
        refine st rfl rfl rfl (op_add64 rfl rfl rfl (by omega) (by omega)) ?_
        refine st rfl rfl rfl (op_convIn rfl (by rw [Tryd.underlying3]; rfl) Tryd.underlying5 rfl (by first | rfl | exact wrap64_in (by omega) (by omega) | exact wrapu8_in (by omega) (by omega) | (simp only [IntKind.wrap]; omega))) ?_
        refine st rfl rfl rfl (op_buildSlice [[_], [_], [_]] rfl Tryd.underlying64 Tryd.sizeOf5 Tryd.zeroValue5 rfl (by decide) (by decide) rfl rfl rfl rfl rfl) ?_
        refine st rfl rfl rfl (op_bytesStr (b := _) (m := 3) rfl Tryd.underlying64 Tryd.underlying5 Tryd.underlying9 (bs3 ⟨by omega, by omega⟩ ⟨by omega, by omega⟩ ⟨by omega, by omega⟩) rfl rfl) ?_
        refine st rfl rfl rfl (op_assignO rfl rfl) ?_
        refine AOps_nil ?_
        refine AWp_ret ?_
        (try simp only [blockQ, thenQ])
        refine ResQ_10 rfl hcl (by simp [AV.lt, AV.ltL]) (Ret_of ?_)
        congr 1; unfold rchar; first | (rw [if_pos (by omega)]; done) | (rw [if_neg (by omega), if_pos (by omega)]; done) | (rw [if_neg (by omega), if_neg (by omega), if_pos (by omega)]; done) | (rw [if_neg (by omega), if_neg (by omega), if_neg (by omega)]; done)
      · (try rw [h3]); (try simp only [decide_eq_true_eq, decide_eq_false_iff_not, Bool.not_eq_true', Bool.not_eq_false', Int.not_lt, Int.not_le, Bool.not_true, Bool.not_false, Int.toNat_natCast, bne_iff_ne, beq_iff_eq, beq_eq_false_iff_ne, ne_eq, Decidable.not_not] at h3)
        refine AWp_skip ?_
        refine AWp_seq ?_
        -- region 7 ref.go:269
        refine AWp_regL ?_
        refine st rfl rfl rfl (op_moveO rfl rfl) ?_
        refine st rfl rfl rfl (op_quo64 rfl rfl rfl (by omega) (by omega) (by omega)) ?_
        refine st rfl rfl rfl (op_add64 rfl rfl rfl (by omega) (by omega)) ?_
        refine st rfl rfl rfl (op_convIn rfl (by rw [Tryd.underlying3]; rfl) Tryd.underlying5 rfl (by first | rfl | exact wrap64_in (by omega) (by omega) | exact wrapu8_in (by omega) (by omega) | (simp only [IntKind.wrap]; omega))) ?_
        refine st rfl rfl rfl (op_moveO rfl rfl) ?_
        refine st rfl rfl rfl (op_quo64 rfl rfl rfl (by omega) (by omega) (by omega)) ?_
        refine st rfl rfl rfl (op_rem64 rfl rfl rfl (by omega) (by omega)) ?_
        refine st rfl rfl rfl (op_add64 rfl rfl rfl (by omega) (by omega)) ?_
        refine st rfl rfl rfl (op_convIn rfl (by rw [Tryd.underlying3]; rfl) Tryd.underlying5 rfl (by first | rfl | exact wrap64_in (by omega) (by omega) | exact wrapu8_in (by omega) (by omega) | (simp only [IntKind.wrap]; omega))) ?_
        refine st rfl rfl rfl (op_moveO rfl rfl) ?_
        refine st rfl rfl rfl (op_quo64 rfl rfl rfl (by omega) (by omega) (by omega)) ?_
        refine st rfl rfl rfl (op_rem64 rfl rfl rfl (by omega) (by omega)) ?_
        refine st rfl rfl rfl (op_add64 rfl rfl rfl (by omega) (by omega)) ?_
        refine st rfl rfl rfl (op_convIn rfl (by rw [Tryd.underlying3]; rfl) Tryd.underlying5 rfl (by first | rfl | exact wrap64_in (by omega) (by omega) | exact wrapu8_in (by omega) (by omega) | (simp only [IntKind.wrap]; omega))) ?_
        refine st rfl rfl rfl (op_moveO rfl rfl) ?_
        refine st rfl rfl rfl (op_rem64 rfl rfl rfl (by omega) (by omega)) ?_
        refine st rfl rfl rfl (op_add64 rfl rfl rfl (by omega) (by omega)) ?_
        refine st rfl rfl rfl (op_convIn rfl (by rw [Tryd.underlying3]; rfl) Tryd.underlying5 rfl (by first | rfl | exact wrap64_in (by omega) (by omega) | exact wrapu8_in (by omega) (by omega) | (simp only [IntKind.wrap]; omega))) ?_
        refine st rfl rfl rfl (op_buildSlice [[_], [_], [_], [_]] rfl Tryd.underlying64 Tryd.sizeOf5 Tryd.zeroValue5 rfl (by decide) (by decide) rfl rfl rfl rfl rfl) ?_
        refine st rfl rfl rfl (op_bytesStr (b := _) (m := 4) rfl Tryd.underlying64 Tryd.underlying5 Tryd.underlying9 (bs4 ⟨by omega, by omega⟩ ⟨by omega, by omega⟩ ⟨by omega, by omega⟩ ⟨by omega, by omega⟩) rfl rfl) ?_
        refine st rfl rfl rfl (op_assignO rfl rfl) ?_
        refine AOps_nil ?_
        refine AWp_ret ?_
        (try simp only [blockQ, thenQ])
        refine ResQ_10 rfl hcl (by simp [AV.lt, AV.ltL]) (Ret_of ?_)
        congr 1; unfold rchar; first | (rw [if_pos (by omega)]; done) | (rw [if_neg (by omega), if_pos (by omega)]; done) | (rw [if_neg (by omega), if_neg (by omega), if_pos (by omega)]; done) | (rw [if_neg (by omega), if_neg (by omega), if_neg (by omega)]; done)

end Lg
