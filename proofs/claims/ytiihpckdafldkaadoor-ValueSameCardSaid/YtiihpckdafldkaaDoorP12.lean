/- A part of the proof of ValueSame: Same is of one value with itself, both ways, and on from one to the next, and what follows of size, depth and members; for every input, with no condition: W23 W24 Vs. -/
import Derived.Test.YtiihpckdafldkaaDoorP11
import Derived.Test.YtiihpckdafldkaaDoorP9
import Derived.Test.YtiihpckdafldkaaDoorP3
import Derived.Test.YtiihpckdafldkaaDoorProg
set_option linter.unusedVariables false
set_option linter.unusedSimpArgs false
set_option linter.unusedSectionVars false
set_option maxRecDepth 20000
set_option maxHeartbeats 4000000
namespace Lg
open Go Go.Proofs Go.RowKit
variable [GLay] [U8]


theorem jfindD_ok {v : JV} {key : ByteArray} {n : Int} (h : jb v) (hs : jsize v ≤ n) (hn : 1 ≤ n) : jb ((jfind v key).getD vz) ∧ jsize ((jfind v key).getD vz) ≤ n := by
  cases hf : jfind v key with
  | none => exact ⟨jb_nil _ _ _ _ (Nat.zero_le _) (Nat.zero_le _), by simp only [Option.getD_none, vz, jsize_nil]; omega⟩
  | some x =>
    unfold jfind at hf
    split at hf
    · rw [Option.map_eq_some_iff] at hf
      obtain ⟨q, hq, rfl⟩ := hf
      obtain ⟨j, hj⟩ := List.getElem?_of_mem (List.mem_of_find?_eq_some hq)
      have h1 := msize_mem hj
      have h2 := jsize_eq v
      have h3 := lsize_nn v.l
      exact ⟨(mb_get ((jb_eq v).1 h).2.2.2.2.2 hj).2, by simp only [Option.getD_some]; omega⟩
    · cases hf
theorem findV_c (v : JV) (key : ByteArray) (σ : List AO) (hb : v.m.length ≤ 1000000) : ACalls Tryd.prog 12 [.agg [.int .i64 v.kind, .bool v.b, .bool v.n.neg, .str v.n.digits, .int .i64 v.n.exp, .str v.s, .sl false 8 (lcells v.l), .sl false 9 (mcells v.m)], .str key] σ (Ret (.tup [.agg (vcells ((jfind v key).getD vz)), .bool (jfind v key).isSome]) σ) := by
  have h := FindR.ret (find_c v key σ hb)
  rwa [vcells_eq v] at h
theorem rfindV_c (v : JV) (key : ByteArray) (σ : List AO) (hb : v.m.length ≤ 1000000) : ACalls Tryd.prog 13 [.agg [.int .i64 v.kind, .bool v.b, .bool v.n.neg, .str v.n.digits, .int .i64 v.n.exp, .str v.s, .sl false 8 (lcells v.l), .sl false 9 (mcells v.m)], .str key] σ (Ret (.tup [.agg (vcells ((jfind v key).getD vz)), .bool (jfind v key).isSome]) σ) := by
  have h := FindR.ret (rfind_c v key σ hb)
  rwa [vcells_eq v] at h
theorem mayV_c (v : JV) (σ : List AO) (hm : jmay v) (h : jb v) (hs : jsize v ≤ 3000) : ACalls Tryd.prog 9 [.agg [.int .i64 v.kind, .bool v.b, .bool v.n.neg, .str v.n.digits, .int .i64 v.n.exp, .str v.s, .sl false 8 (lcells v.l), .sl false 9 (mcells v.m)]] σ (Ret (.bool true) σ) := by
  have h := may_any 3000 v σ hs h
  rwa [vcells_eq v, pb_t hm] at h
theorem sameV_c (x y : JV) (σ : List AO) (hs : jsize x ≤ 10000) (hx : jb x) (hy : jb y) : ACalls Tryd.prog 15 [.agg [.int .i64 x.kind, .bool x.b, .bool x.n.neg, .str x.n.digits, .int .i64 x.n.exp, .str x.s, .sl false 8 (lcells x.l), .sl false 9 (mcells x.m)], .agg [.int .i64 y.kind, .bool y.b, .bool y.n.neg, .str y.n.digits, .int .i64 y.n.exp, .str y.s, .sl false 8 (lcells y.l), .sl false 9 (mcells y.m)]] σ (Ret (.bool (pb (x = y))) σ) := AC2 (vcells_eq x) (vcells_eq y) (same_any 10000 x y σ hs hx hy)
theorem rsameV_c (x y : JV) (σ : List AO) (hs : jsize x ≤ 10000) (hx : jb x) (hy : jb y) : ACalls Tryd.prog 14 [.agg [.int .i64 x.kind, .bool x.b, .bool x.n.neg, .str x.n.digits, .int .i64 x.n.exp, .str x.s, .sl false 8 (lcells x.l), .sl false 9 (mcells x.m)], .agg [.int .i64 y.kind, .bool y.b, .bool y.n.neg, .str y.n.digits, .int .i64 y.n.exp, .str y.s, .sl false 8 (lcells y.l), .sl false 9 (mcells y.m)]] σ (Ret (.bool (pb (x = y))) σ) := AC2 (vcells_eq x) (vcells_eq y) (rsame_any 10000 x y σ hs hx hy)
theorem rsameT_c (x : JV) (σ : List AO) (hs : jsize x ≤ 10000) (hx : jb x) : ACalls Tryd.prog 14 [.agg [.int .i64 x.kind, .bool x.b, .bool x.n.neg, .str x.n.digits, .int .i64 x.n.exp, .str x.s, .sl false 8 (lcells x.l), .sl false 9 (mcells x.m)], .agg [.int .i64 x.kind, .bool x.b, .bool x.n.neg, .str x.n.digits, .int .i64 x.n.exp, .str x.s, .sl false 8 (lcells x.l), .sl false 9 (mcells x.m)]] σ (Ret (.bool true) σ) := by
  have h := rsameV_c x x σ hs hx hx
  rwa [pb_t rfl] at h
theorem sameT_c (x : JV) (σ : List AO) (hs : jsize x ≤ 10000) (hx : jb x) : ACalls Tryd.prog 15 [.agg [.int .i64 x.kind, .bool x.b, .bool x.n.neg, .str x.n.digits, .int .i64 x.n.exp, .str x.s, .sl false 8 (lcells x.l), .sl false 9 (mcells x.m)], .agg [.int .i64 x.kind, .bool x.b, .bool x.n.neg, .str x.n.digits, .int .i64 x.n.exp, .str x.s, .sl false 8 (lcells x.l), .sl false 9 (mcells x.m)]] σ (Ret (.bool true) σ) := by
  have h := sameV_c x x σ hs hx hx
  rwa [pb_t rfl] at h
theorem sizeV_c (x : JV) (σ : List AO) (hs : jsize x ≤ 10000) : ACalls Tryd.prog 16 [.agg [.int .i64 x.kind, .bool x.b, .bool x.n.neg, .str x.n.digits, .int .i64 x.n.exp, .str x.s, .sl false 8 (lcells x.l), .sl false 9 (mcells x.m)]] σ (Ret (.int .i64 (jsize x)) σ) := AC1 (vcells_eq x) (size_any 10000 x σ hs (by decide))
theorem rsizeV_c (x : JV) (σ : List AO) (hs : jsize x ≤ 10000) : ACalls Tryd.prog 17 [.agg [.int .i64 x.kind, .bool x.b, .bool x.n.neg, .str x.n.digits, .int .i64 x.n.exp, .str x.s, .sl false 8 (lcells x.l), .sl false 9 (mcells x.m)]] σ (Ret (.int .i64 (jsize x)) σ) := AC1 (vcells_eq x) (rsize_any 10000 x σ hs (by decide))
theorem depthV_c (x : JV) (σ : List AO) (hs : jsize x ≤ 10000) : ACalls Tryd.prog 18 [.agg [.int .i64 x.kind, .bool x.b, .bool x.n.neg, .str x.n.digits, .int .i64 x.n.exp, .str x.s, .sl false 8 (lcells x.l), .sl false 9 (mcells x.m)]] σ (Ret (.int .i64 (jdepth x)) σ) := AC1 (vcells_eq x) (depth_any 10000 x σ hs (by decide))
theorem rdepthV_c (x : JV) (σ : List AO) (hs : jsize x ≤ 10000) : ACalls Tryd.prog 19 [.agg [.int .i64 x.kind, .bool x.b, .bool x.n.neg, .str x.n.digits, .int .i64 x.n.exp, .str x.s, .sl false 8 (lcells x.l), .sl false 9 (mcells x.m)]] σ (Ret (.int .i64 (jdepth x)) σ) := AC1 (vcells_eq x) (rdepth_any 10000 x σ hs (by decide))
theorem valueTells_c (s t key : ByteArray) (σ : List AO) : ACalls Tryd.prog 4 [.str s, .str t, .str key] σ (Ret (.bool true) σ) := by
  refine ACalls_body Tryd.func4 rfl Tryd.ntmps4 (res1 Tryd.results4) (Nat.le_of_ble_eq_true rfl) (fun hcl hal => ?_)
  have hsa := rValue_ok s
  have hsb := rValue_ok t
  refine AWp_seq ?_
  -- region 0 law.go:18
  refine AWp_regL ?_
  refine st rfl rfl rfl (op_assignO rfl rfl) ?_
  refine AOps_nil ?_
  refine AWp_seq ?_
  -- region 1 law.go:19
  refine AWp_regL ?_
  refine st rfl rfl rfl (op_callF rfl rfl rfl Tryd.func8 rfl rfl (up3_c _)) ?_
  refine st rfl rfl rfl (op_assignO rfl rfl) ?_
  refine AOps_nil ?_
  refine AWp_seq ?_
  -- region 2 law.go:20
  refine AWp_regL ?_
  refine st rfl rfl rfl (op_moveO rfl rfl) ?_
  refine st rfl rfl rfl (op_callF rfl rfl rfl Tryd.func11 rfl rfl (value_c s _)) ?_
  generalize (rValue s).1 = a at hsa ⊢
  generalize (rValue s).2 = oa at hsa ⊢
  rw [vcells_eq a]
  refine st rfl rfl rfl (op_moveO rfl rfl) ?_
  refine st rfl rfl rfl (op_extract rfl rfl rfl) ?_
  refine st rfl rfl rfl (op_extract rfl rfl rfl) ?_
  refine st rfl rfl rfl (op_alloc0 (cs := [_, _, _, _, _, _, _, _]) rfl Tryd.zeroValue28 rfl) ?_
  refine stN rfl rfl ((by first | exact op_storeO (r := [_, _, _, _, _, _, _, _]) rfl Tryd.sizeOf28 rfl rfl rfl rfl rfl (by decide) | exact op_storeP (r := [_, _, _, _, _, _, _, _]) rfl Tryd.sizeOf28 rfl rfl rfl (by assumption) rfl (by decide))) ?_
  refine st rfl rfl rfl (op_assignO rfl rfl) ?_
  refine AOps_nil ?_
  refine AWp_seq ?_
  -- region 3 law.go:21
  refine AWp_regL ?_
  refine st rfl rfl rfl (op_moveO rfl rfl) ?_
  refine st rfl rfl rfl (op_callF rfl rfl rfl Tryd.func11 rfl rfl (value_c t _)) ?_
  generalize (rValue t).1 = b at hsb ⊢
  generalize (rValue t).2 = ob at hsb ⊢
  rw [vcells_eq b]
  refine st rfl rfl rfl (op_moveO rfl rfl) ?_
  refine st rfl rfl rfl (op_extract rfl rfl rfl) ?_
  refine st rfl rfl rfl (op_extract rfl rfl rfl) ?_
  refine st rfl rfl rfl (op_allocO (cs := [_, _, _, _, _, _, _, _]) 1 rfl rfl Tryd.zeroValue28 rfl) ?_
  refine stN rfl rfl ((by first | exact op_storeO (r := [_, _, _, _, _, _, _, _]) rfl Tryd.sizeOf28 rfl rfl rfl rfl rfl (by decide) | exact op_storeP (r := [_, _, _, _, _, _, _, _]) rfl Tryd.sizeOf28 rfl rfl rfl (by assumption) rfl (by decide))) ?_
  refine st rfl rfl rfl (op_assignO rfl rfl) ?_
  refine AOps_nil ?_
  refine AWp_seq ?_
  refine AWp_seq ?_
  -- region 4 law.go:22
  refine AWp_regL ?_
  refine st rfl rfl rfl (op_moveO rfl rfl) ?_
  refine st rfl rfl rfl (op_eql rfl rfl rfl) ?_
  refine st rfl rfl rfl (op_moveO rfl rfl) ?_
  refine AOps_split 31 rfl (fun h1 => ?_) (fun h1 => ?_)
  · rw [h1]; (try simp only [decide_eq_true_eq, decide_eq_false_iff_not, Bool.not_eq_true', Bool.not_eq_false', Int.not_lt, Int.not_le, Bool.not_true, Bool.not_false, Int.toNat_natCast, bne_iff_ne, beq_iff_eq, beq_eq_false_iff_ne, ne_eq, Decidable.not_not] at h1)
    refine stS rfl rfl rfl (.inl rfl) rfl rfl ?_
    refine stS rfl rfl rfl (.inl rfl) rfl rfl ?_
    refine st rfl rfl rfl (op_pickTO rfl rfl rfl) ?_
    refine st rfl rfl rfl (op_moveO rfl rfl) ?_
    refine stS rfl rfl rfl (.inl rfl) rfl rfl ?_
    refine stS rfl rfl rfl (.inl rfl) rfl rfl ?_
    refine stS rfl rfl rfl (.inl rfl) rfl rfl ?_
    refine st rfl rfl rfl (op_pickTO rfl rfl rfl) ?_
    refine AOps_nil ?_
    refine AWp_condT rfl ?_
    refine AWp_seq ?_
    -- region 5 law.go:23
    refine AWp_regL ?_
    refine st rfl rfl rfl (op_moveO rfl rfl) ?_
    refine st rfl rfl rfl (op_assignO rfl rfl) ?_
    refine AOps_nil ?_
    refine AWp_ret ?_
    (try simp only [blockQ, thenQ])
    exact ResQ_1 rfl hcl trivial ⟨rfl, rfl⟩
  · rw [h1]; (try simp only [decide_eq_true_eq, decide_eq_false_iff_not, Bool.not_eq_true', Bool.not_eq_false', Int.not_lt, Int.not_le, Bool.not_true, Bool.not_false, Int.toNat_natCast, bne_iff_ne, beq_iff_eq, beq_eq_false_iff_ne, ne_eq, Decidable.not_not] at h1)
    refine stG rfl rfl rfl rfl rfl rfl (op_moveO rfl rfl) ?_
    refine stG rfl rfl rfl rfl rfl rfl (op_eql rfl rfl rfl) ?_
    refine st rfl rfl rfl (op_pickFO rfl rfl rfl) ?_
    refine st rfl rfl rfl (op_moveO rfl rfl) ?_
    refine AOps_split 35 rfl (fun h2 => ?_) (fun h2 => ?_)
    · rw [h2]; (try simp only [decide_eq_true_eq, decide_eq_false_iff_not, Bool.not_eq_true', Bool.not_eq_false', Int.not_lt, Int.not_le, Bool.not_true, Bool.not_false, Int.toNat_natCast, bne_iff_ne, beq_iff_eq, beq_eq_false_iff_ne, ne_eq, Decidable.not_not] at h2)
      refine stS rfl rfl rfl (.inl rfl) rfl rfl ?_
      refine stS rfl rfl rfl (.inl rfl) rfl rfl ?_
      refine stS rfl rfl rfl (.inl rfl) rfl rfl ?_
      refine st rfl rfl rfl (op_pickTO rfl rfl rfl) ?_
      refine AOps_nil ?_
      refine AWp_condT rfl ?_
      refine AWp_seq ?_
      -- region 5 law.go:23
      refine AWp_regL ?_
      refine st rfl rfl rfl (op_moveO rfl rfl) ?_
      refine st rfl rfl rfl (op_assignO rfl rfl) ?_
      refine AOps_nil ?_
      refine AWp_ret ?_
      (try simp only [blockQ, thenQ])
      exact ResQ_1 rfl hcl trivial ⟨rfl, rfl⟩
    · rw [h2]; (try simp only [decide_eq_true_eq, decide_eq_false_iff_not, Bool.not_eq_true', Bool.not_eq_false', Int.not_lt, Int.not_le, Bool.not_true, Bool.not_false, Int.toNat_natCast, bne_iff_ne, beq_iff_eq, beq_eq_false_iff_ne, ne_eq, Decidable.not_not] at h2)
      refine stG rfl rfl rfl rfl rfl rfl (op_moveO rfl rfl) ?_
      refine stG rfl rfl rfl rfl rfl rfl (op_lenStr rfl rfl Tryd.underlying9 rfl) ?_
      refine stG rfl rfl rfl rfl rfl rfl (op_gtr rfl rfl rfl) ?_
      refine st rfl rfl rfl (op_pickFO rfl rfl rfl) ?_
      refine AOps_nil ?_
      refine AWp_cond rfl (fun h3 => ?_) (fun h3 => ?_)
      · (try rw [h3]); (try simp only [decide_eq_true_eq, decide_eq_false_iff_not, Bool.not_eq_true', Bool.not_eq_false', Int.not_lt, Int.not_le, Bool.not_true, Bool.not_false, Int.toNat_natCast, bne_iff_ne, beq_iff_eq, beq_eq_false_iff_ne, ne_eq, Decidable.not_not] at h3)
        refine AWp_seq ?_
        -- region 5 law.go:23
        refine AWp_regL ?_
        refine st rfl rfl rfl (op_moveO rfl rfl) ?_
        refine st rfl rfl rfl (op_assignO rfl rfl) ?_
        refine AOps_nil ?_
        refine AWp_ret ?_
        (try simp only [blockQ, thenQ])
        exact ResQ_1 rfl hcl trivial ⟨rfl, rfl⟩
      · (try rw [h3]); (try simp only [decide_eq_true_eq, decide_eq_false_iff_not, Bool.not_eq_true', Bool.not_eq_false', Int.not_lt, Int.not_le, Bool.not_true, Bool.not_false, Int.toNat_natCast, bne_iff_ne, beq_iff_eq, beq_eq_false_iff_ne, ne_eq, Decidable.not_not] at h3)
        refine AWp_skip ?_
        refine AWp_seq ?_
        -- region 6 law.go:25
        obtain ⟨ha1, ha2, ha3⟩ : jmay a ∧ jb a ∧ jsize a ≤ 2002 := by rcases hsa with h | h; exact absurd h.1 (by omega); exact h.2
        obtain ⟨hb1, hb2, hb3⟩ : jmay b ∧ jb b ∧ jsize b ≤ 2002 := by rcases hsb with h | h; exact absurd h.1 (by omega); exact h.2
        have hml : a.m.length ≤ 1000000 := ((jb_eq a).1 ha2).2.2.2.1
        have hf := jfindD_ok (key := key) ha2 ha3 (by decide)
        refine AWp_regL ?_
        refine st rfl rfl rfl (op_loadK (cs := [_, _, _, _, _, _, _, _]) rfl Tryd.isAgg28 Tryd.sizeOf28 (by first | exact ldv_own rfl rfl | exact ldv_pp rfl | exact ldv_old (by assumption) rfl | exact ldv_ptr (by assumption) rfl)) ?_
        refine st rfl rfl rfl (op_moveO rfl rfl) ?_
        refine st rfl rfl rfl (op_callF rfl rfl rfl Tryd.func12 rfl rfl (findV_c a key _ hml)) ?_
        rw [vcells_eq ((jfind a key).getD vz)]
        refine st rfl rfl rfl (op_moveO rfl rfl) ?_
        refine st rfl rfl rfl (op_extract rfl rfl rfl) ?_
        refine st rfl rfl rfl (op_extract rfl rfl rfl) ?_
        refine st rfl rfl rfl (op_allocO (cs := [_, _, _, _, _, _, _, _]) 2 rfl rfl Tryd.zeroValue28 rfl) ?_
        refine stN rfl rfl ((by first | exact op_storeO (r := [_, _, _, _, _, _, _, _]) rfl Tryd.sizeOf28 rfl rfl rfl rfl rfl (by decide) | exact op_storeP (r := [_, _, _, _, _, _, _, _]) rfl Tryd.sizeOf28 rfl rfl rfl (by assumption) rfl (by decide))) ?_
        refine st rfl rfl rfl (op_assignO rfl rfl) ?_
        refine AOps_nil ?_
        refine AWp_seq ?_
        -- region 7 law.go:26
        refine AWp_regL ?_
        refine st rfl rfl rfl (op_loadK (cs := [_, _, _, _, _, _, _, _]) rfl Tryd.isAgg28 Tryd.sizeOf28 (by first | exact ldv_own rfl rfl | exact ldv_pp rfl | exact ldv_old (by assumption) rfl | exact ldv_ptr (by assumption) rfl)) ?_
        refine st rfl rfl rfl (op_moveO rfl rfl) ?_
        refine st rfl rfl rfl (op_callF rfl rfl rfl Tryd.func13 rfl rfl (rfindV_c a key _ hml)) ?_
        rw [vcells_eq ((jfind a key).getD vz)]
        refine st rfl rfl rfl (op_moveO rfl rfl) ?_
        refine st rfl rfl rfl (op_extract rfl rfl rfl) ?_
        refine st rfl rfl rfl (op_extract rfl rfl rfl) ?_
        refine st rfl rfl rfl (op_allocO (cs := [_, _, _, _, _, _, _, _]) 3 rfl rfl Tryd.zeroValue28 rfl) ?_
        refine stN rfl rfl ((by first | exact op_storeO (r := [_, _, _, _, _, _, _, _]) rfl Tryd.sizeOf28 rfl rfl rfl rfl rfl (by decide) | exact op_storeP (r := [_, _, _, _, _, _, _, _]) rfl Tryd.sizeOf28 rfl rfl rfl (by assumption) rfl (by decide))) ?_
        refine st rfl rfl rfl (op_assignO rfl rfl) ?_
        refine AOps_nil ?_
        refine AWp_seq ?_
        -- region 8 law.go:27
        refine AWp_regL ?_
        refine st rfl rfl rfl (op_loadK (cs := [_, _, _, _, _, _, _, _]) rfl Tryd.isAgg28 Tryd.sizeOf28 (by first | exact ldv_own rfl rfl | exact ldv_pp rfl | exact ldv_old (by assumption) rfl | exact ldv_ptr (by assumption) rfl)) ?_
        refine st rfl rfl rfl (op_loadK (cs := [_, _, _, _, _, _, _, _]) rfl Tryd.isAgg28 Tryd.sizeOf28 (by first | exact ldv_own rfl rfl | exact ldv_pp rfl | exact ldv_old (by assumption) rfl | exact ldv_ptr (by assumption) rfl)) ?_
        refine st rfl rfl rfl (op_callF rfl rfl rfl Tryd.func14 rfl rfl (rsameT_c ((jfind a key).getD vz) _ (by omega) hf.1)) ?_
        refine st rfl rfl rfl (op_assignO rfl rfl) ?_
        refine AOps_nil ?_
        refine AWp_seq ?_
        -- region 9 law.go:28
        refine AWp_regL ?_
        refine st rfl rfl rfl (op_loadK (cs := [_, _, _, _, _, _, _, _]) rfl Tryd.isAgg28 Tryd.sizeOf28 (by first | exact ldv_own rfl rfl | exact ldv_pp rfl | exact ldv_old (by assumption) rfl | exact ldv_ptr (by assumption) rfl)) ?_
        refine st rfl rfl rfl (op_loadK (cs := [_, _, _, _, _, _, _, _]) rfl Tryd.isAgg28 Tryd.sizeOf28 (by first | exact ldv_own rfl rfl | exact ldv_pp rfl | exact ldv_old (by assumption) rfl | exact ldv_ptr (by assumption) rfl)) ?_
        refine st rfl rfl rfl (op_callF rfl rfl rfl Tryd.func14 rfl rfl (rsameV_c a b _ (by omega) ha2 hb2)) ?_
        refine st rfl rfl rfl (op_assignO rfl rfl) ?_
        refine AOps_nil ?_
        refine AWp_seq ?_
        -- region 10 law.go:29 DRAWN
        refine AWp_drawL #[0, 1, 3, 7, 15, 31, 63, 63, 255, 63, 1023, 2047, 4095, 8191, 16383, 8191, 65535, 131071, 262143, 524287, 1048575, 2097151, 1048575, 8388607, 16777215, 33554431, 67108863, 134217727, 268435455, 536870911, 1073741823, 1073741823, 4294967295, 8589934591, 17179869183] Tryd.mixed (by decide +kernel) (by decide +kernel) ?_
        refine rA rfl rfl rfl rfl (fun _ => op_moveO rfl rfl) ?_
        refine rA rfl rfl rfl rfl (fun _ => op_moveO rfl rfl) ?_
        refine rPG rfl rfl rfl rfl rfl rfl rfl (op_loadK (cs := [_, _, _, _, _, _, _, _]) rfl Tryd.isAgg28 Tryd.sizeOf28 (by first | exact ldv_own rfl rfl | exact ldv_pp rfl | exact ldv_old (by assumption) rfl | exact ldv_ptr (by assumption) rfl)) (trivial) ?_
        refine rPG rfl rfl rfl rfl rfl rfl rfl (op_callF rfl rfl rfl Tryd.func9 rfl rfl (mayV_c a _ ha1 ha2 (by omega))) (trivial) ?_
        refine rA rfl rfl rfl rfl (fun _ => op_pickTO rfl rfl rfl) ?_
        refine rA rfl rfl rfl rfl (fun _ => op_moveO rfl rfl) ?_
        refine rPG rfl rfl rfl rfl rfl rfl rfl (op_loadK (cs := [_, _, _, _, _, _, _, _]) rfl Tryd.isAgg28 Tryd.sizeOf28 (by first | exact ldv_own rfl rfl | exact ldv_pp rfl | exact ldv_old (by assumption) rfl | exact ldv_ptr (by assumption) rfl)) (trivial) ?_
        refine rPG rfl rfl rfl rfl rfl rfl rfl (op_loadK (cs := [_, _, _, _, _, _, _, _]) rfl Tryd.isAgg28 Tryd.sizeOf28 (by first | exact ldv_own rfl rfl | exact ldv_pp rfl | exact ldv_old (by assumption) rfl | exact ldv_ptr (by assumption) rfl)) (trivial) ?_
        refine rPG rfl rfl rfl rfl rfl rfl rfl (op_callF rfl rfl rfl Tryd.func15 rfl rfl (sameV_c a b _ (by omega) ha2 hb2)) (trivial) ?_
        refine rAG rfl rfl rfl rfl rfl rfl rfl (fun _ => op_moveO rfl rfl) ?_
        refine rAG rfl rfl rfl rfl rfl rfl rfl (fun _ => op_beqlS rfl Tryd.underlying4 rfl rfl) ?_
        refine rA rfl rfl rfl rfl (fun _ => op_pickTO rfl rfl rfl) ?_
        refine rA rfl rfl rfl rfl (fun _ => op_moveO rfl rfl) ?_
        refine rPG rfl rfl rfl rfl rfl rfl rfl (op_loadK (cs := [_, _, _, _, _, _, _, _]) rfl Tryd.isAgg28 Tryd.sizeOf28 (by first | exact ldv_own rfl rfl | exact ldv_pp rfl | exact ldv_old (by assumption) rfl | exact ldv_ptr (by assumption) rfl)) (trivial) ?_
        refine rPG rfl rfl rfl rfl rfl rfl rfl (op_callF rfl rfl rfl Tryd.func16 rfl rfl (sizeV_c a _ (by omega))) (trivial) ?_
        refine rPG rfl rfl rfl rfl rfl rfl rfl (op_loadK (cs := [_, _, _, _, _, _, _, _]) rfl Tryd.isAgg28 Tryd.sizeOf28 (by first | exact ldv_own rfl rfl | exact ldv_pp rfl | exact ldv_old (by assumption) rfl | exact ldv_ptr (by assumption) rfl)) (trivial) ?_
        refine rPG rfl rfl rfl rfl rfl rfl rfl (op_callF rfl rfl rfl Tryd.func17 rfl rfl (rsizeV_c a _ (by omega))) (trivial) ?_
        refine rAG rfl rfl rfl rfl rfl rfl rfl (fun _ => op_eqlT rfl rfl rfl rfl) ?_
        refine rA rfl rfl rfl rfl (fun _ => op_pickTO rfl rfl rfl) ?_
        refine rA rfl rfl rfl rfl (fun _ => op_moveO rfl rfl) ?_
        refine rPG rfl rfl rfl rfl rfl rfl rfl (op_loadK (cs := [_, _, _, _, _, _, _, _]) rfl Tryd.isAgg28 Tryd.sizeOf28 (by first | exact ldv_own rfl rfl | exact ldv_pp rfl | exact ldv_old (by assumption) rfl | exact ldv_ptr (by assumption) rfl)) (trivial) ?_
        refine rPG rfl rfl rfl rfl rfl rfl rfl (op_callF rfl rfl rfl Tryd.func18 rfl rfl (depthV_c a _ (by omega))) (trivial) ?_
        refine rPG rfl rfl rfl rfl rfl rfl rfl (op_loadK (cs := [_, _, _, _, _, _, _, _]) rfl Tryd.isAgg28 Tryd.sizeOf28 (by first | exact ldv_own rfl rfl | exact ldv_pp rfl | exact ldv_old (by assumption) rfl | exact ldv_ptr (by assumption) rfl)) (trivial) ?_
        refine rPG rfl rfl rfl rfl rfl rfl rfl (op_callF rfl rfl rfl Tryd.func19 rfl rfl (rdepthV_c a _ (by omega))) (trivial) ?_
        refine rAG rfl rfl rfl rfl rfl rfl rfl (fun _ => op_eqlT rfl rfl rfl rfl) ?_
        refine rA rfl rfl rfl rfl (fun _ => op_pickTO rfl rfl rfl) ?_
        refine rA rfl rfl rfl rfl (fun _ => op_moveO rfl rfl) ?_
        refine rAG rfl rfl rfl rfl rfl rfl rfl (fun _ => op_moveO rfl rfl) ?_
        refine rA rfl rfl rfl rfl (fun _ => op_pickTO rfl rfl rfl) ?_
        refine rA rfl rfl rfl rfl (fun _ => op_moveO rfl rfl) ?_
        refine rAG rfl rfl rfl rfl rfl rfl rfl (fun _ => op_moveO rfl rfl) ?_
        refine rAG rfl rfl rfl rfl rfl rfl rfl (fun _ => op_moveO rfl rfl) ?_
        refine rAG rfl rfl rfl rfl rfl rfl rfl (fun _ => op_beqlS rfl Tryd.underlying4 rfl rfl) ?_
        refine rA rfl rfl rfl rfl (fun _ => op_pickTO rfl rfl rfl) ?_
        refine rA rfl rfl rfl rfl (fun _ => op_assignO rfl rfl) ?_
        refine RP.nil rfl ?_
        refine AWp_ret ?_
        (try simp only [blockQ, thenQ])
        exact ResQ_1 rfl hcl trivial ⟨rfl, rfl⟩

end Lg
set_option maxRecDepth 20000
set_option maxHeartbeats 4000000
namespace Lg
open Go Go.Proofs Go.RowKit
variable [GLay] [U8]


theorem op_bneqS {P : Program} {σ : List AO} {e : Env} {o : Oper} {T T' : TypeId} {x y : Operand} {a : Bool} (ho : o.op = .binOp .neq T x y T') (hu : P.underlying T = some .bool) (hx : opv e x = .bool a) (hy : opv e y = .bool a) : AOp P σ e o (.bool false) σ := by
  have := op_bneq (P := P) (σ := σ) ho hu hx hy
  rwa [show (a != a) = false by cases a <;> rfl] at this
theorem cle (v : JV) : AVleL [.int .i64 v.kind, .bool v.b, .bool v.n.neg, .str v.n.digits, .int .i64 v.n.exp, .str v.s, .sl false 8 (lcells v.l), .sl false 9 (mcells v.m)] (vcells v) := by rw [vcells_eq]; exact AVleL.refl _
theorem sameW_c (x y : JV) (σ : List AO) (hs : jsize y ≤ 10000) (hx : jb x) (hy : jb y) : ACalls Tryd.prog 15 [.agg [.int .i64 y.kind, .bool y.b, .bool y.n.neg, .str y.n.digits, .int .i64 y.n.exp, .str y.s, .sl false 8 (lcells y.l), .sl false 9 (mcells y.m)], .agg [.int .i64 x.kind, .bool x.b, .bool x.n.neg, .str x.n.digits, .int .i64 x.n.exp, .str x.s, .sl false 8 (lcells x.l), .sl false 9 (mcells x.m)]] σ (Ret (.bool (pb (x = y))) σ) := by
  have h := sameV_c y x σ hs hy hx
  rwa [show (y = x) = (x = y) from propext eq_comm] at h
theorem sameE_c (x y : JV) (σ : List AO) (hs : jsize x ≤ 10000) (hx : jb x) (hy : jb y) (e : x = y) : ACalls Tryd.prog 15 [.agg [.int .i64 x.kind, .bool x.b, .bool x.n.neg, .str x.n.digits, .int .i64 x.n.exp, .str x.s, .sl false 8 (lcells x.l), .sl false 9 (mcells x.m)], .agg [.int .i64 y.kind, .bool y.b, .bool y.n.neg, .str y.n.digits, .int .i64 y.n.exp, .str y.s, .sl false 8 (lcells y.l), .sl false 9 (mcells y.m)]] σ (Ret (.bool true) σ) := by
  subst e; exact sameT_c x σ hs hx
theorem sizeE_c (x y : JV) (σ : List AO) (hs : jsize x ≤ 10000) (e : x = y) : ACalls Tryd.prog 16 [.agg [.int .i64 y.kind, .bool y.b, .bool y.n.neg, .str y.n.digits, .int .i64 y.n.exp, .str y.s, .sl false 8 (lcells y.l), .sl false 9 (mcells y.m)]] σ (Ret (.int .i64 (jsize x)) σ) := by
  subst e; exact sizeV_c x σ hs
theorem depthE_c (x y : JV) (σ : List AO) (hs : jsize x ≤ 10000) (e : x = y) : ACalls Tryd.prog 18 [.agg [.int .i64 y.kind, .bool y.b, .bool y.n.neg, .str y.n.digits, .int .i64 y.n.exp, .str y.s, .sl false 8 (lcells y.l), .sl false 9 (mcells y.m)]] σ (Ret (.int .i64 (jdepth x)) σ) := by
  subst e; exact depthV_c x σ hs
def mM (a b : JV) : JV := .mk 5 false {} e0 [] [(⟨#[97]⟩, a), (⟨#[98]⟩, b)]
def mL (a b : JV) : JV := .mk 4 false {} e0 [a, b] []
theorem mL_size (a b : JV) : jsize (mL a b) = 1 + jsize a + jsize b := by simp [mL, jsize, lsize, msize]; omega
theorem mL_depth (a b : JV) : jdepth (mL a b) = 1 + max (jdepth a) (jdepth b) := by
  have ha := jdepth_nn a
  have hb := jdepth_nn b
  rw [jdepth_eq, if_pos (.inl rfl)]
  simp only [mL, JV.l, JV.m, ldep, mdep]; omega
theorem findM_c (a b : JV) (σ : List AO) : ACalls Tryd.prog 12 [.agg [.int .i64 5, .bool false, .bool false, .str e0, .int .i64 0, .str e0, .nils, .sl true 9 [.str ⟨#[97]⟩ :: [.int .i64 a.kind, .bool a.b, .bool a.n.neg, .str a.n.digits, .int .i64 a.n.exp, .str a.s, .sl false 8 (lcells a.l), .sl false 9 (mcells a.m)], .str ⟨#[98]⟩ :: [.int .i64 b.kind, .bool b.b, .bool b.n.neg, .str b.n.digits, .int .i64 b.n.exp, .str b.s, .sl false 8 (lcells b.l), .sl false 9 (mcells b.m)]]], .str ⟨#[98]⟩] σ (Ret (.tup [.agg (vcells b), .bool true]) σ) := by
  have h := FindR.ret (find_c (mM a b) ⟨#[98]⟩ σ (by show 2 ≤ _; decide))
  have hj : jfind (mM a b) ⟨#[98]⟩ = some b := by
    unfold jfind
    rw [if_pos (show (mM a b).kind = 5 from rfl)]
    show Option.map _ (List.find? _ [((⟨#[97]⟩ : ByteArray), a), ((⟨#[98]⟩ : ByteArray), b)]) = _
    rw [List.find?_cons_of_neg (by simp), List.find?_cons_of_pos (by simp)]
    rfl
  rw [hj] at h
  exact ACalls.conv (args' := [.agg (vcells (mM a b)), .str ⟨#[98]⟩]) ⟨AVle.agg (vle8 nilL (ml2 (cle a) (cle b))), AVle.refl _, trivial⟩ h
theorem valueSame_c (s t u : ByteArray) (σ : List AO) : ACalls Tryd.prog 5 [.str s, .str t, .str u] σ (Ret (.bool true) σ) := by
  refine ACalls_body Tryd.func5 rfl Tryd.ntmps5 (res1 Tryd.results5) (Nat.le_of_ble_eq_true rfl) (fun hcl hal => ?_)
  have hsa := rValue_ok s
  have hsb := rValue_ok t
  have hsc := rValue_ok u
  refine AWp_seq ?_
  -- region 0 law.go:49
  refine AWp_regL ?_
  refine st rfl rfl rfl (op_assignO rfl rfl) ?_
  refine AOps_nil ?_
  refine AWp_seq ?_
  -- region 1 law.go:50
  refine AWp_regL ?_
  refine st rfl rfl rfl (op_callF rfl rfl rfl Tryd.func8 rfl rfl (up3_c _)) ?_
  refine st rfl rfl rfl (op_assignO rfl rfl) ?_
  refine AOps_nil ?_
  refine AWp_seq ?_
  -- region 2 law.go:51
  refine AWp_regL ?_
  refine st rfl rfl rfl (op_moveO rfl rfl) ?_
  refine st rfl rfl rfl (op_callF rfl rfl rfl Tryd.func11 rfl rfl (value_c s _)) ?_
  generalize (rValue s).1 = a at hsa ⊢
  generalize (rValue s).2 = oa at hsa ⊢
  rw [vcells_eq a]
  refine st rfl rfl rfl (op_moveO rfl rfl) ?_
  refine st rfl rfl rfl (op_extract rfl rfl rfl) ?_
  refine st rfl rfl rfl (op_extract rfl rfl rfl) ?_
  refine st rfl rfl rfl (op_alloc0 (cs := [_, _, _, _, _, _, _, _]) rfl Tryd.zeroValue28 rfl) ?_
  refine stN rfl rfl ((by first | exact op_storeO (r := [_, _, _, _, _, _, _, _]) rfl Tryd.sizeOf28 rfl rfl rfl rfl rfl (by decide) | exact op_storeP (r := [_, _, _, _, _, _, _, _]) rfl Tryd.sizeOf28 rfl rfl rfl (by assumption) rfl (by decide))) ?_
  refine st rfl rfl rfl (op_assignO rfl rfl) ?_
  refine AOps_nil ?_
  refine AWp_seq ?_
  -- region 3 law.go:52
  refine AWp_regL ?_
  refine st rfl rfl rfl (op_moveO rfl rfl) ?_
  refine st rfl rfl rfl (op_callF rfl rfl rfl Tryd.func11 rfl rfl (value_c t _)) ?_
  generalize (rValue t).1 = b at hsb ⊢
  generalize (rValue t).2 = ob at hsb ⊢
  rw [vcells_eq b]
  refine st rfl rfl rfl (op_moveO rfl rfl) ?_
  refine st rfl rfl rfl (op_extract rfl rfl rfl) ?_
  refine st rfl rfl rfl (op_extract rfl rfl rfl) ?_
  refine st rfl rfl rfl (op_allocO (cs := [_, _, _, _, _, _, _, _]) 1 rfl rfl Tryd.zeroValue28 rfl) ?_
  refine stN rfl rfl ((by first | exact op_storeO (r := [_, _, _, _, _, _, _, _]) rfl Tryd.sizeOf28 rfl rfl rfl rfl rfl (by decide) | exact op_storeP (r := [_, _, _, _, _, _, _, _]) rfl Tryd.sizeOf28 rfl rfl rfl (by assumption) rfl (by decide))) ?_
  refine st rfl rfl rfl (op_assignO rfl rfl) ?_
  refine AOps_nil ?_
  refine AWp_seq ?_
  -- region 4 law.go:53
  refine AWp_regL ?_
  refine st rfl rfl rfl (op_moveO rfl rfl) ?_
  refine st rfl rfl rfl (op_callF rfl rfl rfl Tryd.func11 rfl rfl (value_c u _)) ?_
  generalize (rValue u).1 = c at hsc ⊢
  generalize (rValue u).2 = oc at hsc ⊢
  rw [vcells_eq c]
  refine st rfl rfl rfl (op_moveO rfl rfl) ?_
  refine st rfl rfl rfl (op_extract rfl rfl rfl) ?_
  refine st rfl rfl rfl (op_extract rfl rfl rfl) ?_
  refine st rfl rfl rfl (op_allocO (cs := [_, _, _, _, _, _, _, _]) 2 rfl rfl Tryd.zeroValue28 rfl) ?_
  refine stN rfl rfl ((by first | exact op_storeO (r := [_, _, _, _, _, _, _, _]) rfl Tryd.sizeOf28 rfl rfl rfl rfl rfl (by decide) | exact op_storeP (r := [_, _, _, _, _, _, _, _]) rfl Tryd.sizeOf28 rfl rfl rfl (by assumption) rfl (by decide))) ?_
  refine st rfl rfl rfl (op_assignO rfl rfl) ?_
  refine AOps_nil ?_
  refine AWp_seq ?_
  refine AWp_seq ?_
  -- region 5 law.go:54
  refine AWp_regL ?_
  refine st rfl rfl rfl (op_moveO rfl rfl) ?_
  refine st rfl rfl rfl (op_eql rfl rfl rfl) ?_
  refine st rfl rfl rfl (op_moveO rfl rfl) ?_
  refine AOps_split 35 rfl (fun h1 => ?_) (fun h1 => ?_)
  · rw [h1]; (try simp only [decide_eq_true_eq, decide_eq_false_iff_not, Bool.not_eq_true', Bool.not_eq_false', Int.not_lt, Int.not_le, Bool.not_true, Bool.not_false, Int.toNat_natCast, bne_iff_ne, beq_iff_eq, beq_eq_false_iff_ne, ne_eq, Decidable.not_not] at h1)
    refine stS rfl rfl rfl (.inl rfl) rfl rfl ?_
    refine stS rfl rfl rfl (.inl rfl) rfl rfl ?_
    refine st rfl rfl rfl (op_pickTO rfl rfl rfl) ?_
    refine st rfl rfl rfl (op_moveO rfl rfl) ?_
    refine stS rfl rfl rfl (.inl rfl) rfl rfl ?_
    refine stS rfl rfl rfl (.inl rfl) rfl rfl ?_
    refine st rfl rfl rfl (op_pickTO rfl rfl rfl) ?_
    refine AOps_nil ?_
    refine AWp_condT rfl ?_
    refine AWp_seq ?_
    -- region 6 law.go:55
    refine AWp_regL ?_
    refine st rfl rfl rfl (op_moveO rfl rfl) ?_
    refine st rfl rfl rfl (op_assignO rfl rfl) ?_
    refine AOps_nil ?_
    refine AWp_ret ?_
    (try simp only [blockQ, thenQ])
    exact ResQ_1 rfl hcl trivial ⟨rfl, rfl⟩
  · rw [h1]; (try simp only [decide_eq_true_eq, decide_eq_false_iff_not, Bool.not_eq_true', Bool.not_eq_false', Int.not_lt, Int.not_le, Bool.not_true, Bool.not_false, Int.toNat_natCast, bne_iff_ne, beq_iff_eq, beq_eq_false_iff_ne, ne_eq, Decidable.not_not] at h1)
    refine stG rfl rfl rfl rfl rfl rfl (op_moveO rfl rfl) ?_
    refine stG rfl rfl rfl rfl rfl rfl (op_eql rfl rfl rfl) ?_
    refine st rfl rfl rfl (op_pickFO rfl rfl rfl) ?_
    refine st rfl rfl rfl (op_moveO rfl rfl) ?_
    refine AOps_split 39 rfl (fun h2 => ?_) (fun h2 => ?_)
    · rw [h2]; (try simp only [decide_eq_true_eq, decide_eq_false_iff_not, Bool.not_eq_true', Bool.not_eq_false', Int.not_lt, Int.not_le, Bool.not_true, Bool.not_false, Int.toNat_natCast, bne_iff_ne, beq_iff_eq, beq_eq_false_iff_ne, ne_eq, Decidable.not_not] at h2)
      refine stS rfl rfl rfl (.inl rfl) rfl rfl ?_
      refine stS rfl rfl rfl (.inl rfl) rfl rfl ?_
      refine st rfl rfl rfl (op_pickTO rfl rfl rfl) ?_
      refine AOps_nil ?_
      refine AWp_condT rfl ?_
      refine AWp_seq ?_
      -- region 6 law.go:55
      refine AWp_regL ?_
      refine st rfl rfl rfl (op_moveO rfl rfl) ?_
      refine st rfl rfl rfl (op_assignO rfl rfl) ?_
      refine AOps_nil ?_
      refine AWp_ret ?_
      (try simp only [blockQ, thenQ])
      exact ResQ_1 rfl hcl trivial ⟨rfl, rfl⟩
    · rw [h2]; (try simp only [decide_eq_true_eq, decide_eq_false_iff_not, Bool.not_eq_true', Bool.not_eq_false', Int.not_lt, Int.not_le, Bool.not_true, Bool.not_false, Int.toNat_natCast, bne_iff_ne, beq_iff_eq, beq_eq_false_iff_ne, ne_eq, Decidable.not_not] at h2)
      refine stG rfl rfl rfl rfl rfl rfl (op_moveO rfl rfl) ?_
      refine stG rfl rfl rfl rfl rfl rfl (op_eql rfl rfl rfl) ?_
      refine st rfl rfl rfl (op_pickFO rfl rfl rfl) ?_
      refine AOps_nil ?_
      refine AWp_cond rfl (fun h3 => ?_) (fun h3 => ?_)
      · (try rw [h3]); (try simp only [decide_eq_true_eq, decide_eq_false_iff_not, Bool.not_eq_true', Bool.not_eq_false', Int.not_lt, Int.not_le, Bool.not_true, Bool.not_false, Int.toNat_natCast, bne_iff_ne, beq_iff_eq, beq_eq_false_iff_ne, ne_eq, Decidable.not_not] at h3)
        refine AWp_seq ?_
        -- region 6 law.go:55
        refine AWp_regL ?_
        refine st rfl rfl rfl (op_moveO rfl rfl) ?_
        refine st rfl rfl rfl (op_assignO rfl rfl) ?_
        refine AOps_nil ?_
        refine AWp_ret ?_
        (try simp only [blockQ, thenQ])
        exact ResQ_1 rfl hcl trivial ⟨rfl, rfl⟩
      · (try rw [h3]); (try simp only [decide_eq_true_eq, decide_eq_false_iff_not, Bool.not_eq_true', Bool.not_eq_false', Int.not_lt, Int.not_le, Bool.not_true, Bool.not_false, Int.toNat_natCast, bne_iff_ne, beq_iff_eq, beq_eq_false_iff_ne, ne_eq, Decidable.not_not] at h3)
        obtain ⟨ha1, ha2, ha3⟩ : jmay a ∧ jb a ∧ jsize a ≤ 2002 := by rcases hsa with h | h; exact absurd h.1 (by omega); exact h.2
        obtain ⟨hb1, hb2, hb3⟩ : jmay b ∧ jb b ∧ jsize b ≤ 2002 := by rcases hsb with h | h; exact absurd h.1 (by omega); exact h.2
        obtain ⟨hc1, hc2, hc3⟩ : jmay c ∧ jb c ∧ jsize c ≤ 2002 := by rcases hsc with h | h; exact absurd h.1 (by omega); exact h.2
        refine AWp_skip ?_
        refine AWp_join (ι := Unit) (fun w0 => True) (fun w0 => ⟨[], [(7, .bool true), (8, .ptr (σ.length + 0) 0), (10, .ptr (σ.length + 1) 0), (12, .ptr (σ.length + 2) 0)]⟩) (fun w0 => σ ++ [.box [.int .i64 a.kind, .bool a.b, .bool a.n.neg, .str a.n.digits, .int .i64 a.n.exp, .str a.s, .sl false 8 (lcells a.l), .sl false 9 (mcells a.m)], .box [.int .i64 b.kind, .bool b.b, .bool b.n.neg, .str b.n.digits, .int .i64 b.n.exp, .str b.s, .sl false 8 (lcells b.l), .sl false 9 (mcells b.m)], .box [.int .i64 c.kind, .bool c.b, .bool c.n.neg, .str c.n.digits, .int .i64 c.n.exp, .str c.s, .sl false 8 (lcells c.l), .sl false 9 (mcells c.m)]]) ?_ (fun w0 hj => ?_)
        · skip
          refine AWp_seq ?_
          -- region 7 law.go:57 DRAWN
          refine AWp_drawL #[0, 0, 3, 7, 15, 31, 31, 127, 31, 31, 1023, 2047, 4095, 8191, 16383, 16383, 65535, 131071, 262143, 262143, 1048575, 2097151, 4194303, 8388607, 8388607, 33554431, 67108863, 134217727, 268435455] Tryd.mixed (by decide +kernel) (by decide +kernel) ?_
          refine rP rfl rfl rfl rfl (op_loadK (cs := [_, _, _, _, _, _, _, _]) rfl Tryd.isAgg28 Tryd.sizeOf28 (by first | exact ldv_own rfl rfl | exact ldv_pp rfl | exact ldv_old (by assumption) rfl | exact ldv_ptr (by assumption) rfl)) (trivial) ?_
          refine rP rfl rfl rfl rfl (op_loadK (cs := [_, _, _, _, _, _, _, _]) rfl Tryd.isAgg28 Tryd.sizeOf28 (by first | exact ldv_own rfl rfl | exact ldv_pp rfl | exact ldv_old (by assumption) rfl | exact ldv_ptr (by assumption) rfl)) (trivial) ?_
          refine rP rfl rfl rfl rfl (op_callF rfl rfl rfl Tryd.func15 rfl rfl (sameT_c a _ (by omega) ha2)) (trivial) ?_
          refine rA rfl rfl rfl rfl (fun _ => op_not rfl rfl) ?_
          refine rA rfl rfl rfl rfl (fun _ => op_moveO rfl rfl) ?_
          refine rPG rfl rfl rfl rfl rfl rfl rfl (op_loadK (cs := [_, _, _, _, _, _, _, _]) rfl Tryd.isAgg28 Tryd.sizeOf28 (by first | exact ldv_own rfl rfl | exact ldv_pp rfl | exact ldv_old (by assumption) rfl | exact ldv_ptr (by assumption) rfl)) (trivial) ?_
          refine rPG rfl rfl rfl rfl rfl rfl rfl (op_loadK (cs := [_, _, _, _, _, _, _, _]) rfl Tryd.isAgg28 Tryd.sizeOf28 (by first | exact ldv_own rfl rfl | exact ldv_pp rfl | exact ldv_old (by assumption) rfl | exact ldv_ptr (by assumption) rfl)) (trivial) ?_
          refine rPG rfl rfl rfl rfl rfl rfl rfl (op_callF rfl rfl rfl Tryd.func15 rfl rfl (sameV_c a b _ (by omega) ha2 hb2)) (trivial) ?_
          refine rPG rfl rfl rfl rfl rfl rfl rfl (op_loadK (cs := [_, _, _, _, _, _, _, _]) rfl Tryd.isAgg28 Tryd.sizeOf28 (by first | exact ldv_own rfl rfl | exact ldv_pp rfl | exact ldv_old (by assumption) rfl | exact ldv_ptr (by assumption) rfl)) (trivial) ?_
          refine rPG rfl rfl rfl rfl rfl rfl rfl (op_loadK (cs := [_, _, _, _, _, _, _, _]) rfl Tryd.isAgg28 Tryd.sizeOf28 (by first | exact ldv_own rfl rfl | exact ldv_pp rfl | exact ldv_old (by assumption) rfl | exact ldv_ptr (by assumption) rfl)) (trivial) ?_
          refine rPG rfl rfl rfl rfl rfl rfl rfl (op_callF rfl rfl rfl Tryd.func15 rfl rfl (sameW_c a b _ (by omega) ha2 hb2)) (trivial) ?_
          refine rAG rfl rfl rfl rfl rfl rfl rfl (fun _ => op_bneqS rfl Tryd.underlying4 rfl rfl) ?_
          refine rA rfl rfl rfl rfl (fun _ => op_pickFO rfl rfl rfl) ?_
          refine rA rfl rfl rfl rfl (fun _ => op_moveO rfl rfl) ?_
          refine rPG rfl rfl rfl rfl rfl rfl rfl (op_loadK (cs := [_, _, _, _, _, _, _, _]) rfl Tryd.isAgg28 Tryd.sizeOf28 (by first | exact ldv_own rfl rfl | exact ldv_pp rfl | exact ldv_old (by assumption) rfl | exact ldv_ptr (by assumption) rfl)) (trivial) ?_
          refine rPG rfl rfl rfl rfl rfl rfl rfl (op_loadK (cs := [_, _, _, _, _, _, _, _]) rfl Tryd.isAgg28 Tryd.sizeOf28 (by first | exact ldv_own rfl rfl | exact ldv_pp rfl | exact ldv_old (by assumption) rfl | exact ldv_ptr (by assumption) rfl)) (trivial) ?_
          refine rPG rfl rfl rfl rfl rfl rfl rfl (op_callF rfl rfl rfl Tryd.func15 rfl rfl (sameV_c a b _ (by omega) ha2 hb2)) (trivial) ?_
          refine rAG rfl rfl rfl rfl rfl rfl rfl (fun _ => op_moveO rfl rfl) ?_
          refine RP_split 61 rfl (fun h4 => ?_) (fun h4 => ?_)
          · rw [h4]; (try simp only [decide_eq_true_eq, decide_eq_false_iff_not, Bool.not_eq_true', Bool.not_eq_false', Int.not_lt, Int.not_le, Bool.not_true, Bool.not_false, Int.toNat_natCast, bne_iff_ne, beq_iff_eq, beq_eq_false_iff_ne, ne_eq, Decidable.not_not] at h4)
            refine rPG rfl rfl rfl rfl rfl rfl rfl (op_loadK (cs := [_, _, _, _, _, _, _, _]) rfl Tryd.isAgg28 Tryd.sizeOf28 (by first | exact ldv_own rfl rfl | exact ldv_pp rfl | exact ldv_old (by assumption) rfl | exact ldv_ptr (by assumption) rfl)) (trivial) ?_
            refine rPG rfl rfl rfl rfl rfl rfl rfl (op_loadK (cs := [_, _, _, _, _, _, _, _]) rfl Tryd.isAgg28 Tryd.sizeOf28 (by first | exact ldv_own rfl rfl | exact ldv_pp rfl | exact ldv_old (by assumption) rfl | exact ldv_ptr (by assumption) rfl)) (trivial) ?_
            refine rPG rfl rfl rfl rfl rfl rfl rfl (op_callF rfl rfl rfl Tryd.func15 rfl rfl (sameV_c b c _ (by omega) hb2 hc2)) (trivial) ?_
            refine rAG rfl rfl rfl rfl rfl rfl rfl (fun _ => op_pickTO rfl rfl rfl) ?_
            refine rAG rfl rfl rfl rfl rfl rfl rfl (fun _ => op_moveO rfl rfl) ?_
            refine RP_split 66 rfl (fun h5 => ?_) (fun h5 => ?_)
            · rw [h5]; (try simp only [decide_eq_true_eq, decide_eq_false_iff_not, Bool.not_eq_true', Bool.not_eq_false', Int.not_lt, Int.not_le, Bool.not_true, Bool.not_false, Int.toNat_natCast, bne_iff_ne, beq_iff_eq, beq_eq_false_iff_ne, ne_eq, Decidable.not_not] at h5)
              refine rPG rfl rfl rfl rfl rfl rfl rfl (op_loadK (cs := [_, _, _, _, _, _, _, _]) rfl Tryd.isAgg28 Tryd.sizeOf28 (by first | exact ldv_own rfl rfl | exact ldv_pp rfl | exact ldv_old (by assumption) rfl | exact ldv_ptr (by assumption) rfl)) (trivial) ?_
              refine rPG rfl rfl rfl rfl rfl rfl rfl (op_loadK (cs := [_, _, _, _, _, _, _, _]) rfl Tryd.isAgg28 Tryd.sizeOf28 (by first | exact ldv_own rfl rfl | exact ldv_pp rfl | exact ldv_old (by assumption) rfl | exact ldv_ptr (by assumption) rfl)) (trivial) ?_
              refine rPG rfl rfl rfl rfl rfl rfl rfl (op_callF rfl rfl rfl Tryd.func15 rfl rfl (sameE_c a c _ (by omega) ha2 hc2 (((pb_iff (a = b)).1 (by assumption)).trans ((pb_iff (b = c)).1 (by assumption))))) (trivial) ?_
              refine rAG rfl rfl rfl rfl rfl rfl rfl (fun _ => op_not rfl rfl) ?_
              refine rAG rfl rfl rfl rfl rfl rfl rfl (fun _ => op_pickTO rfl rfl rfl) ?_
              refine rA rfl rfl rfl rfl (fun _ => op_pickFO rfl rfl rfl) ?_
              refine RP.nil rfl ?_
              refine AWp_condF rfl ?_
              refine AWp_skip ?_
              exact ⟨(), trivial, ⟨rfl, rfl, rfl, rfl, rfl, trivial⟩, rfl⟩
            · rw [h5]; (try simp only [decide_eq_true_eq, decide_eq_false_iff_not, Bool.not_eq_true', Bool.not_eq_false', Int.not_lt, Int.not_le, Bool.not_true, Bool.not_false, Int.toNat_natCast, bne_iff_ne, beq_iff_eq, beq_eq_false_iff_ne, ne_eq, Decidable.not_not] at h5)
              refine rS rfl rfl rfl rfl (.inl rfl) rfl rfl ?_
              refine rS rfl rfl rfl rfl (.inl rfl) rfl rfl ?_
              refine rS rfl rfl rfl rfl (.inl rfl) rfl rfl ?_
              refine rS rfl rfl rfl rfl (.inl rfl) rfl rfl ?_
              refine rAG rfl rfl rfl rfl rfl rfl rfl (fun _ => op_pickFO rfl rfl rfl) ?_
              refine rA rfl rfl rfl rfl (fun _ => op_pickFO rfl rfl rfl) ?_
              refine RP.nil rfl ?_
              refine AWp_condF rfl ?_
              refine AWp_skip ?_
              exact ⟨(), trivial, ⟨rfl, rfl, rfl, rfl, rfl, trivial⟩, rfl⟩
          · rw [h4]; (try simp only [decide_eq_true_eq, decide_eq_false_iff_not, Bool.not_eq_true', Bool.not_eq_false', Int.not_lt, Int.not_le, Bool.not_true, Bool.not_false, Int.toNat_natCast, bne_iff_ne, beq_iff_eq, beq_eq_false_iff_ne, ne_eq, Decidable.not_not] at h4)
            refine rS rfl rfl rfl rfl (.inl rfl) rfl rfl ?_
            refine rS rfl rfl rfl rfl (.inl rfl) rfl rfl ?_
            refine rS rfl rfl rfl rfl (.inl rfl) rfl rfl ?_
            refine rAG rfl rfl rfl rfl rfl rfl rfl (fun _ => op_pickFO rfl rfl rfl) ?_
            refine rAG rfl rfl rfl rfl rfl rfl rfl (fun _ => op_moveO rfl rfl) ?_
            refine rS rfl rfl rfl rfl (.inl rfl) rfl rfl ?_
            refine rS rfl rfl rfl rfl (.inl rfl) rfl rfl ?_
            refine rS rfl rfl rfl rfl (.inl rfl) rfl rfl ?_
            refine rS rfl rfl rfl rfl (.inl rfl) rfl rfl ?_
            refine rAG rfl rfl rfl rfl rfl rfl rfl (fun _ => op_pickFO rfl rfl rfl) ?_
            refine rA rfl rfl rfl rfl (fun _ => op_pickFO rfl rfl rfl) ?_
            refine RP.nil rfl ?_
            refine AWp_condF rfl ?_
            refine AWp_skip ?_
            exact ⟨(), trivial, ⟨rfl, rfl, rfl, rfl, rfl, trivial⟩, rfl⟩
        · skip
          refine AWp_join (ι := Unit) (fun w0 => True) (fun w0 => ⟨[], [(7, .bool true), (8, .ptr (σ.length + 0) 0), (10, .ptr (σ.length + 1) 0), (12, .ptr (σ.length + 2) 0)]⟩) (fun w0 => σ ++ [.box [.int .i64 a.kind, .bool a.b, .bool a.n.neg, .str a.n.digits, .int .i64 a.n.exp, .str a.s, .sl false 8 (lcells a.l), .sl false 9 (mcells a.m)], .box [.int .i64 b.kind, .bool b.b, .bool b.n.neg, .str b.n.digits, .int .i64 b.n.exp, .str b.s, .sl false 8 (lcells b.l), .sl false 9 (mcells b.m)], .box [.int .i64 c.kind, .bool c.b, .bool c.n.neg, .str c.n.digits, .int .i64 c.n.exp, .str c.s, .sl false 8 (lcells c.l), .sl false 9 (mcells c.m)]]) ?_ (fun w0 hj => ?_)
          · skip
            refine AWp_seq ?_
            -- region 9 law.go:60 DRAWN
            refine AWp_drawL #[0, 0, 3, 7, 15, 31, 15, 127, 255, 511, 1023, 2047, 1023, 8191, 16383, 32767, 65535] Tryd.mixed (by decide +kernel) (by decide +kernel) ?_
            refine rP rfl rfl rfl rfl (op_loadK (cs := [_, _, _, _, _, _, _, _]) rfl Tryd.isAgg28 Tryd.sizeOf28 (by first | exact ldv_own rfl rfl | exact ldv_pp rfl | exact ldv_old (by assumption) rfl | exact ldv_ptr (by assumption) rfl)) (trivial) ?_
            refine rP rfl rfl rfl rfl (op_loadK (cs := [_, _, _, _, _, _, _, _]) rfl Tryd.isAgg28 Tryd.sizeOf28 (by first | exact ldv_own rfl rfl | exact ldv_pp rfl | exact ldv_old (by assumption) rfl | exact ldv_ptr (by assumption) rfl)) (trivial) ?_
            refine rP rfl rfl rfl rfl (op_callF rfl rfl rfl Tryd.func15 rfl rfl (sameV_c a b _ (by omega) ha2 hb2)) (trivial) ?_
            refine rA rfl rfl rfl rfl (fun _ => op_moveO rfl rfl) ?_
            refine RP_split 76 rfl (fun h6 => ?_) (fun h6 => ?_)
            · rw [h6]; (try simp only [decide_eq_true_eq, decide_eq_false_iff_not, Bool.not_eq_true', Bool.not_eq_false', Int.not_lt, Int.not_le, Bool.not_true, Bool.not_false, Int.toNat_natCast, bne_iff_ne, beq_iff_eq, beq_eq_false_iff_ne, ne_eq, Decidable.not_not] at h6)
              refine rPG rfl rfl rfl rfl rfl rfl rfl (op_loadK (cs := [_, _, _, _, _, _, _, _]) rfl Tryd.isAgg28 Tryd.sizeOf28 (by first | exact ldv_own rfl rfl | exact ldv_pp rfl | exact ldv_old (by assumption) rfl | exact ldv_ptr (by assumption) rfl)) (trivial) ?_
              refine rPG rfl rfl rfl rfl rfl rfl rfl (op_callF rfl rfl rfl Tryd.func16 rfl rfl (sizeV_c a _ (by omega))) (trivial) ?_
              refine rPG rfl rfl rfl rfl rfl rfl rfl (op_loadK (cs := [_, _, _, _, _, _, _, _]) rfl Tryd.isAgg28 Tryd.sizeOf28 (by first | exact ldv_own rfl rfl | exact ldv_pp rfl | exact ldv_old (by assumption) rfl | exact ldv_ptr (by assumption) rfl)) (trivial) ?_
              refine rPG rfl rfl rfl rfl rfl rfl rfl (op_callF rfl rfl rfl Tryd.func16 rfl rfl (sizeE_c a b _ (by omega) ((pb_iff (a = b)).1 (by assumption)))) (trivial) ?_
              refine rAG rfl rfl rfl rfl rfl rfl rfl (fun _ => op_neqF rfl rfl rfl rfl) ?_
              refine rAG rfl rfl rfl rfl rfl rfl rfl (fun _ => op_moveO rfl rfl) ?_
              refine rPG rfl rfl rfl rfl rfl rfl rfl (op_loadK (cs := [_, _, _, _, _, _, _, _]) rfl Tryd.isAgg28 Tryd.sizeOf28 (by first | exact ldv_own rfl rfl | exact ldv_pp rfl | exact ldv_old (by assumption) rfl | exact ldv_ptr (by assumption) rfl)) (trivial) ?_
              refine rPG rfl rfl rfl rfl rfl rfl rfl (op_callF rfl rfl rfl Tryd.func18 rfl rfl (depthV_c a _ (by omega))) (trivial) ?_
              refine rPG rfl rfl rfl rfl rfl rfl rfl (op_loadK (cs := [_, _, _, _, _, _, _, _]) rfl Tryd.isAgg28 Tryd.sizeOf28 (by first | exact ldv_own rfl rfl | exact ldv_pp rfl | exact ldv_old (by assumption) rfl | exact ldv_ptr (by assumption) rfl)) (trivial) ?_
              refine rPG rfl rfl rfl rfl rfl rfl rfl (op_callF rfl rfl rfl Tryd.func18 rfl rfl (depthE_c a b _ (by omega) ((pb_iff (a = b)).1 (by assumption)))) (trivial) ?_
              refine rAG rfl rfl rfl rfl rfl rfl rfl (fun _ => op_neqF rfl rfl rfl rfl) ?_
              refine rAG rfl rfl rfl rfl rfl rfl rfl (fun _ => op_pickFO rfl rfl rfl) ?_
              refine rA rfl rfl rfl rfl (fun _ => op_pickTO rfl rfl rfl) ?_
              refine RP.nil rfl ?_
              refine AWp_condF rfl ?_
              refine AWp_skip ?_
              exact ⟨(), trivial, ⟨rfl, rfl, rfl, rfl, rfl, trivial⟩, rfl⟩
            · rw [h6]; (try simp only [decide_eq_true_eq, decide_eq_false_iff_not, Bool.not_eq_true', Bool.not_eq_false', Int.not_lt, Int.not_le, Bool.not_true, Bool.not_false, Int.toNat_natCast, bne_iff_ne, beq_iff_eq, beq_eq_false_iff_ne, ne_eq, Decidable.not_not] at h6)
              refine rS rfl rfl rfl rfl (.inl rfl) rfl rfl ?_
              refine rS rfl rfl rfl rfl (.inl rfl) rfl rfl ?_
              refine rS rfl rfl rfl rfl (.inl rfl) rfl rfl ?_
              refine rS rfl rfl rfl rfl (.inl rfl) rfl rfl ?_
              refine rS rfl rfl rfl rfl (.inl rfl) rfl rfl ?_
              refine rS rfl rfl rfl rfl (.inl rfl) rfl rfl ?_
              refine rS rfl rfl rfl rfl (.inr rfl) rfl rfl ?_
              refine rS rfl rfl rfl rfl (.inr rfl) rfl rfl ?_
              refine rS rfl rfl rfl rfl (.inr rfl) rfl rfl ?_
              refine rS rfl rfl rfl rfl (.inr rfl) rfl rfl ?_
              refine rS rfl rfl rfl rfl (.inr rfl) rfl rfl ?_
              refine rS rfl rfl rfl rfl (.inl rfl) rfl rfl ?_
              refine rA rfl rfl rfl rfl (fun _ => op_pickFO rfl rfl rfl) ?_
              refine RP.nil rfl ?_
              refine AWp_condF rfl ?_
              refine AWp_skip ?_
              exact ⟨(), trivial, ⟨rfl, rfl, rfl, rfl, rfl, trivial⟩, rfl⟩
          · skip
            refine AWp_seq ?_
            -- region 11 law.go:63
            refine AWp_regL ?_
            refine st rfl rfl rfl (op_loadK (cs := [_, _, _, _, _, _, _, _]) rfl Tryd.isAgg28 Tryd.sizeOf28 (by first | exact ldv_own rfl rfl | exact ldv_pp rfl | exact ldv_old (by assumption) rfl | exact ldv_ptr (by assumption) rfl)) ?_
            refine st rfl rfl rfl (op_loadK (cs := [_, _, _, _, _, _, _, _]) rfl Tryd.isAgg28 Tryd.sizeOf28 (by first | exact ldv_own rfl rfl | exact ldv_pp rfl | exact ldv_old (by assumption) rfl | exact ldv_ptr (by assumption) rfl)) ?_
            refine st rfl rfl rfl (op_buildSlice [[_, _, _, _, _, _, _, _], [_, _, _, _, _, _, _, _]] rfl Tryd.underlying25 Tryd.sizeOf28 Tryd.zeroValue28 rfl (by decide) (by decide) rfl rfl rfl rfl rfl) ?_
            refine st rfl rfl rfl (op_buildP (cs := [_, _, _, _, _, _, _, _]) [(0, 1), (1, 1), (2, 3), (5, 1), (6, 1), (7, 1)] rfl Tryd.underlying28 Tryd.zeroValue28 ⟨rfl, Tryd.sizeOf3, ⟨rfl, Tryd.sizeOf4, ⟨rfl, Tryd.sizeOf23, ⟨rfl, Tryd.sizeOf9, ⟨rfl, Tryd.sizeOf25, ⟨rfl, Tryd.sizeOf26, trivial⟩⟩⟩⟩⟩⟩ rfl rfl) ?_
            refine st rfl rfl rfl (op_allocO (cs := [_, _, _, _, _, _, _, _]) 3 rfl rfl Tryd.zeroValue28 rfl) ?_
            refine stN rfl rfl ((by first | exact op_storeO (r := [_, _, _, _, _, _, _, _]) rfl Tryd.sizeOf28 rfl rfl rfl rfl rfl (by decide) | exact op_storeP (r := [_, _, _, _, _, _, _, _]) rfl Tryd.sizeOf28 rfl rfl rfl (by assumption) rfl (by decide))) ?_
            refine AOps_nil ?_
            refine AWp_seq ?_
            -- region 12 law.go:64
            refine AWp_regL ?_
            refine st rfl rfl rfl (op_loadK (cs := [_, _, _, _, _, _, _, _]) rfl Tryd.isAgg28 Tryd.sizeOf28 (by first | exact ldv_own rfl rfl | exact ldv_pp rfl | exact ldv_old (by assumption) rfl | exact ldv_ptr (by assumption) rfl)) ?_
            refine st rfl rfl rfl (op_buildP (cs := [_, _, _, _, _, _, _, _, _]) [(0, 1), (1, 8)] rfl Tryd.underlying30 Tryd.zeroValue30 ⟨rfl, Tryd.sizeOf9, ⟨rfl, Tryd.sizeOf28, trivial⟩⟩ rfl rfl) ?_
            refine st rfl rfl rfl (op_loadK (cs := [_, _, _, _, _, _, _, _]) rfl Tryd.isAgg28 Tryd.sizeOf28 (by first | exact ldv_own rfl rfl | exact ldv_pp rfl | exact ldv_old (by assumption) rfl | exact ldv_ptr (by assumption) rfl)) ?_
            refine st rfl rfl rfl (op_buildP (cs := [_, _, _, _, _, _, _, _, _]) [(0, 1), (1, 8)] rfl Tryd.underlying30 Tryd.zeroValue30 ⟨rfl, Tryd.sizeOf9, ⟨rfl, Tryd.sizeOf28, trivial⟩⟩ rfl rfl) ?_
            refine st rfl rfl rfl (op_buildSlice [[_, _, _, _, _, _, _, _, _], [_, _, _, _, _, _, _, _, _]] rfl Tryd.underlying26 Tryd.sizeOf30 Tryd.zeroValue30 rfl (by decide) (by decide) rfl rfl rfl rfl rfl) ?_
            refine st rfl rfl rfl (op_buildP (cs := [_, _, _, _, _, _, _, _]) [(0, 1), (1, 1), (2, 3), (5, 1), (6, 1), (7, 1)] rfl Tryd.underlying28 Tryd.zeroValue28 ⟨rfl, Tryd.sizeOf3, ⟨rfl, Tryd.sizeOf4, ⟨rfl, Tryd.sizeOf23, ⟨rfl, Tryd.sizeOf9, ⟨rfl, Tryd.sizeOf25, ⟨rfl, Tryd.sizeOf26, trivial⟩⟩⟩⟩⟩⟩ rfl rfl) ?_
            refine st rfl rfl rfl (op_callF rfl rfl rfl Tryd.func12 rfl rfl (findM_c a b _)) ?_
            rw [vcells_eq b]
            refine st rfl rfl rfl (op_moveO rfl rfl) ?_
            refine st rfl rfl rfl (op_extract rfl rfl rfl) ?_
            refine st rfl rfl rfl (op_extract rfl rfl rfl) ?_
            refine st rfl rfl rfl (op_allocO (cs := [_, _, _, _, _, _, _, _]) 4 rfl rfl Tryd.zeroValue28 rfl) ?_
            refine stN rfl rfl ((by first | exact op_storeO (r := [_, _, _, _, _, _, _, _]) rfl Tryd.sizeOf28 rfl rfl rfl rfl rfl (by decide) | exact op_storeP (r := [_, _, _, _, _, _, _, _]) rfl Tryd.sizeOf28 rfl rfl rfl (by assumption) rfl (by decide))) ?_
            refine st rfl rfl rfl (op_assignO rfl rfl) ?_
            refine AOps_nil ?_
            refine AWp_seq ?_
            -- region 13 law.go:65 DRAWN
            have hda := jdepth_nn a
            have hdb := jdepth_nn b
            refine AWp_drawL #[0, 1, 3, 7, 3, 31, 63, 3, 191, 511, 1023, 2047, 4095, 8191, 16383, 8191, 65535, 8191, 262143, 524287, 1048575, 2097151, 4194303, 8388607, 16777215, 33554431, 67108863, 134217727, 134217727, 536870911, 1073741823, 2147483647] Tryd.mixed (by decide +kernel) (by decide +kernel) ?_
            refine rA rfl rfl rfl rfl (fun _ => op_moveO rfl rfl) ?_
            refine rA rfl rfl rfl rfl (fun _ => op_moveO rfl rfl) ?_
            refine rPG rfl rfl rfl rfl rfl rfl rfl (op_loadK (cs := [_, _, _, _, _, _, _, _]) rfl Tryd.isAgg28 Tryd.sizeOf28 (by first | exact ldv_own rfl rfl | exact ldv_pp rfl | exact ldv_old (by assumption) rfl | exact ldv_ptr (by assumption) rfl)) (trivial) ?_
            refine rPG rfl rfl rfl rfl rfl rfl rfl (op_callF rfl rfl rfl Tryd.func16 rfl rfl (AC1c (vle8 (sl2 (cle a) (cle b)) nilM) (size_any 10000 (mL a b) _ (by rw [mL_size]; omega) (by decide)))) (trivial) ?_
            refine rPG rfl rfl rfl rfl rfl rfl rfl (op_loadK (cs := [_, _, _, _, _, _, _, _]) rfl Tryd.isAgg28 Tryd.sizeOf28 (by first | exact ldv_own rfl rfl | exact ldv_pp rfl | exact ldv_old (by assumption) rfl | exact ldv_ptr (by assumption) rfl)) (trivial) ?_
            refine rPG rfl rfl rfl rfl rfl rfl rfl (op_callF rfl rfl rfl Tryd.func16 rfl rfl (sizeV_c a _ (by omega))) (trivial) ?_
            refine rAG rfl rfl rfl rfl rfl rfl rfl (fun _ => op_add64 rfl rfl rfl (by omega) (by omega)) ?_
            refine rPG rfl rfl rfl rfl rfl rfl rfl (op_loadK (cs := [_, _, _, _, _, _, _, _]) rfl Tryd.isAgg28 Tryd.sizeOf28 (by first | exact ldv_own rfl rfl | exact ldv_pp rfl | exact ldv_old (by assumption) rfl | exact ldv_ptr (by assumption) rfl)) (trivial) ?_
            refine rPG rfl rfl rfl rfl rfl rfl rfl (op_callF rfl rfl rfl Tryd.func16 rfl rfl (sizeV_c b _ (by omega))) (trivial) ?_
            refine rAG rfl rfl rfl rfl rfl rfl rfl (fun _ => op_add64 rfl rfl rfl (by omega) (by omega)) ?_
            refine rAG rfl rfl rfl rfl rfl rfl rfl (fun _ => op_eqlT rfl rfl rfl (by rw [mL_size])) ?_
            refine rA rfl rfl rfl rfl (fun _ => op_pickTO rfl rfl rfl) ?_
            refine rA rfl rfl rfl rfl (fun _ => op_moveO rfl rfl) ?_
            refine rPG rfl rfl rfl rfl rfl rfl rfl (op_loadK (cs := [_, _, _, _, _, _, _, _]) rfl Tryd.isAgg28 Tryd.sizeOf28 (by first | exact ldv_own rfl rfl | exact ldv_pp rfl | exact ldv_old (by assumption) rfl | exact ldv_ptr (by assumption) rfl)) (trivial) ?_
            refine rPG rfl rfl rfl rfl rfl rfl rfl (op_callF rfl rfl rfl Tryd.func18 rfl rfl (AC1c (vle8 (sl2 (cle a) (cle b)) nilM) (depth_any 10000 (mL a b) _ (by rw [mL_size]; omega) (by decide)))) (trivial) ?_
            refine rPG rfl rfl rfl rfl rfl rfl rfl (op_loadK (cs := [_, _, _, _, _, _, _, _]) rfl Tryd.isAgg28 Tryd.sizeOf28 (by first | exact ldv_own rfl rfl | exact ldv_pp rfl | exact ldv_old (by assumption) rfl | exact ldv_ptr (by assumption) rfl)) (trivial) ?_
            refine rPG rfl rfl rfl rfl rfl rfl rfl (op_callF rfl rfl rfl Tryd.func18 rfl rfl (depthV_c a _ (by omega))) (trivial) ?_
            refine rPG rfl rfl rfl rfl rfl rfl rfl (op_loadK (cs := [_, _, _, _, _, _, _, _]) rfl Tryd.isAgg28 Tryd.sizeOf28 (by first | exact ldv_own rfl rfl | exact ldv_pp rfl | exact ldv_old (by assumption) rfl | exact ldv_ptr (by assumption) rfl)) (trivial) ?_
            refine rPG rfl rfl rfl rfl rfl rfl rfl (op_callF rfl rfl rfl Tryd.func18 rfl rfl (depthV_c b _ (by omega))) (trivial) ?_
            refine rAG rfl rfl rfl rfl rfl rfl rfl (fun _ => op_max2 rfl rfl rfl) ?_
            refine rAG rfl rfl rfl rfl rfl rfl rfl (fun _ => op_add64 rfl rfl rfl (by omega) (by omega)) ?_
            refine rAG rfl rfl rfl rfl rfl rfl rfl (fun _ => op_eqlT rfl rfl rfl (by rw [mL_depth])) ?_
            refine rA rfl rfl rfl rfl (fun _ => op_pickTO rfl rfl rfl) ?_
            refine rA rfl rfl rfl rfl (fun _ => op_moveO rfl rfl) ?_
            refine rAG rfl rfl rfl rfl rfl rfl rfl (fun _ => op_moveO rfl rfl) ?_
            refine rA rfl rfl rfl rfl (fun _ => op_pickTO rfl rfl rfl) ?_
            refine rA rfl rfl rfl rfl (fun _ => op_moveO rfl rfl) ?_
            refine rPG rfl rfl rfl rfl rfl rfl rfl (op_loadK (cs := [_, _, _, _, _, _, _, _]) rfl Tryd.isAgg28 Tryd.sizeOf28 (by first | exact ldv_own rfl rfl | exact ldv_pp rfl | exact ldv_old (by assumption) rfl | exact ldv_ptr (by assumption) rfl)) (trivial) ?_
            refine rPG rfl rfl rfl rfl rfl rfl rfl (op_loadK (cs := [_, _, _, _, _, _, _, _]) rfl Tryd.isAgg28 Tryd.sizeOf28 (by first | exact ldv_own rfl rfl | exact ldv_pp rfl | exact ldv_old (by assumption) rfl | exact ldv_ptr (by assumption) rfl)) (trivial) ?_
            refine rPG rfl rfl rfl rfl rfl rfl rfl (op_callF rfl rfl rfl Tryd.func15 rfl rfl (sameT_c b _ (by omega) hb2)) (trivial) ?_
            refine rA rfl rfl rfl rfl (fun _ => op_pickTO rfl rfl rfl) ?_
            refine rA rfl rfl rfl rfl (fun _ => op_assignO rfl rfl) ?_
            refine RP.nil rfl ?_
            refine AWp_ret ?_
            (try simp only [blockQ, thenQ])
            exact ResQ_1 rfl hcl trivial ⟨rfl, rfl⟩

end Lg
set_option maxRecDepth 100000
set_option maxHeartbeats 4000000
namespace Go.Proofs.YtiihpckdafldkaaDoor
open Go Go.ChangeShapes Go.WideShapes Go.ChangeAt Go.RowKit Go.Lib
open Go.ChangeMaps (open_string shut_string)
theorem valueSame_lifted (os : Os) (started : os.Started) (H : Type) (enc : TypeId × Value → H) :
    ReturnsInHanded {} Tryd.checked os 5 .any (fun w args => (Rows.valueSameSpec.pre enc Tryd.prog Tryd.f5 [] false w args ∧ laidMetH Tryd.prog Rows.valueSameRow.laid w) ∧ sizedMet enc Tryd.prog Tryd.f5 (OpenSpec.ofChange Rows.valueSameSpec) false w args)
      (Rows.valueSameSpec.post enc Tryd.prog Tryd.f5 false true false false) := by
  refine returnsInHanded_of_change_and (C := Tryd.checked) (X := fun w _ => laidMetH Tryd.prog Rows.valueSameRow.laid w) (fun _ _ _ hh h => h.of_heap hh) own started (by kernel_rfl) Tryd.func5
    (ChangeSpec.witness_shaped (enc := enc) (C := Tryd.checked) (os := os) (X := fun w _ => laidMetH Tryd.prog Rows.valueSameRow.laid w) false (laidWorld os) #[.string ⟨#[]⟩, .string ⟨#[]⟩, .string ⟨#[]⟩] 8 rfl
      (World.shaped_of_RefB (by kernel_rfl) (by kernel_rfl)) (by kernel_rfl) (by kernel_rfl) (by kernel_rfl) (laid_metH os _)) ?_
  intro W base args ds gs before hval0 hW _ _ hL _
  have hval : ∀ (j : Nat) t v, Tryd.f5.params[j]? = some t → args[j]? = some v → Value.okWide Tryd.prog W .any base t v := hval0
  have hW' := hW
  obtain ⟨p, q, hA0, hV, rfl, hfz, hnd⟩ := hW
  have hA : DataW.TrodAll enc Tryd.prog W 0 (fun _ => true) true Tryd.f5.params.toList args.toList ds p := hA0
  rw [Tryd.params5] at hA hval
  obtain ⟨v0, vs0, d0, ds0, p0, q0, hargs, rfl, rfl, h0, r0⟩ := trodAll_cons hA
  obtain ⟨v1, vs1, d1, ds1, p1, q1, rfl, rfl, rfl, h1, r1⟩ := trodAll_cons r0
  obtain ⟨v2, vs2, d2, ds2, p2, q2, rfl, rfl, rfl, h2, r2⟩ := trodAll_cons r1
  obtain ⟨rfl, rfl, rfl⟩ := trodAll_nil r2
  obtain rfl : args = #[v0, v1, v2] := by cases args; simp_all
  obtain ⟨rfl, rfl⟩ := trodVars_none hV
  obtain ⟨x0, rfl, rfl, rfl, w0⟩ := open_string Tryd.underlying9 (hval 0 9 v0 rfl rfl) h0
  obtain ⟨x1, rfl, rfl, rfl, w1⟩ := open_string Tryd.underlying9 (hval 1 9 v1 rfl rfl) h1
  obtain ⟨x2, rfl, rfl, rfl, w2⟩ := open_string Tryd.underlying9 (hval 2 9 v2 rfl rfl) h2
  clear hA0 hval0
  simp only [List.append_nil] at hW'
  have hcall := calls_of (f := 5) (args := [.str x0, .str x1, .str x2]) (cargs := [.string x0, .string x1, .string x2]) (tabs_of hL)
    (fun st => (.cons (.str _) (.cons (.str _) (.cons (.str _) .nil))))
    (Lg.valueSame_c x0 x1 x2 [])
  refine hcall.mono fun e W' ⟨he, hg⟩ => ?_
  subst he
  refine ⟨_, rfl, _, _, _, [], [], [], hW', trodAll_mk1 (shut_bool Tryd.underlying4 _), ?_, rfl, hg.frame _, fun h => by cases h⟩
  exact (trodAll_cons_mk (shut_string Tryd.underlying9 w0) (trodAll_cons_mk (shut_string Tryd.underlying9 w1) (trodAll_cons_mk (shut_string Tryd.underlying9 w2) trodAll_mk0)))

theorem valueSame_holds : Rows.ValueSameSaid :=
  OpenClaim.holds_of_wide 5 Tryd.f5 rfl rfl rfl rfl rfl rfl rfl ⟨rfl, rfl, rfl, rfl, rfl⟩ rfl rfl rfl rfl rfl (by kernel_rfl) Tryd.func5 (by kernel_rfl)
    (of_decide_eq_true (by kernel_rfl)) (by unfold Func.isWrapper; first | (rw [if_pos (by decide +kernel)]; kernel_rfl) | (rw [if_neg (by decide +kernel)]; exact ⟨rfl, rfl⟩))
    (fun os started H enc _ => valueSame_lifted os started H enc)
end Go.Proofs.YtiihpckdafldkaaDoor
