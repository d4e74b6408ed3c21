/- A part of the proof of A value passes the const and the one-element enum of itself; numbers pass minimum, maximum, const as they stand to each other; a doubled list is not unique.: K6 K8 C1 C2 C3 C4 W11 W10 W12 W13 W14 W15. -/
import Derived.Test.YtpcjccmmeaaeaaaGreatDoorD8
import Derived.Test.YtpcjccmmeaaeaaaGreatDoorD4
import Derived.Test.YtpcjccmmeaaeaaaGreatDoorD7
import Derived.Test.YtpcjccmmeaaeaaaGreatDoorD5
import Derived.Test.YtpcjccmmeaaeaaaGreatDoorD3
import Derived.Test.YtpcjccmmeaaeaaaGreatDoorD6
set_option linter.unusedVariables false
set_option linter.unusedSimpArgs false
set_option linter.unusedSectionVars false
set_option maxRecDepth 20000
set_option maxHeartbeats 4000000
namespace Lg
open Go Go.Proofs Go.RowKit
variable [GLay] 
theorem rplain_c (n : Int) (σ : List AO) (h0 : 0 ≤ n) (h1 : n ≤ 1000000000) : ACalls Tryz.prog 149 [.int .i64 n] σ (Ret (.str (itoaB n)) σ) := by
 refine ACalls_body Tryz.func149 rfl Tryz.ntmps149 (res1 Tryz.results149) (Nat.le_of_ble_eq_true rfl) (fun hcl hal => ?_)
 refine zw1 ?_
 refine zu1 ?_
 refine zt rfl (zc rfl (ritoa_c n _ (by omega) (by omega))) ?_
 refine zv1 ?_
 refine zrt ?_
 exact ResQ_10 rfl hcl trivial (Ret_of rfl)

theorem rdig_c (n : Int) (σ : List AO) (h0 : 0 ≤ n) (h1 : n ≤ 1000000000) : ACalls Tryz.prog 110 [.int .i64 n] σ (Ret (.str (itoaB n)) σ) := by
 refine ACalls_body Tryz.func110 rfl Tryz.ntmps110 (res1 Tryz.results110) (Nat.le_of_ble_eq_true rfl) (fun hcl hal => ?_)
 refine zw1 ?_
 refine zu1 ?_
 refine zt rfl (zc rfl (rplain_c n _ h0 h1)) ?_
 refine zv1 ?_
 refine zrt ?_
 exact ResQ_10 rfl hcl trivial (Ret_of rfl)

theorem rk_mem {n : ByteArray} {c : Nat} (h : rk n = c) (hc : c ≠ 0) : (n, c) ∈ kwL := by
  unfold rk at h
  cases hf : kwL.find? fun q => decide (n = q.1) with
  | none => rw [hf] at h; exact absurd h.symm hc
  | some q =>
    rw [hf] at h
    have hm := List.mem_of_find?_eq_some hf
    have hq := List.find?_some hf
    simp only [decide_eq_true_eq] at hq
    simp only [Option.map_some, Option.getD_some] at h
    obtain ⟨a, b⟩ := q
    simp only at hq h
    subst hq; subst h
    exact hm
theorem kidsM_nil {n : ByteArray} (v : JV) (h8 : ¬ rk n = 8) (h1 : ¬ n = ⟨#[112, 114, 111, 112, 101, 114, 116, 105, 101, 115]⟩) (h2 : ¬ n = ⟨#[36, 100, 101, 102, 115]⟩) (h3 : ¬ n = ⟨#[97, 108, 108, 79, 102]⟩) (h4 : ¬ n = ⟨#[97, 110, 121, 79, 102]⟩) (h5 : ¬ n = ⟨#[111, 110, 101, 79, 102]⟩) : kidsM n v = [] := by
  have h9 : ¬ rk n = 9 := fun e => by
    have := rk_mem e (by decide)
    simp [kwL] at this
    rcases this with h | h
    · exact h1 h
    · exact h2 h
  have h10 : ¬ rk n = 10 := fun e => by
    have := rk_mem e (by decide)
    simp [kwL] at this
    rcases this with h | h | h
    · exact h3 h
    · exact h4 h
    · exact h5 h
  unfold kidsM; rw [if_neg h8, if_neg h9, if_neg h10]
theorem kidsM_8 {n : ByteArray} (v : JV) (h : rk n = 8) : kidsM n v = [(e0, v)] := by unfold kidsM; rw [if_pos h]
theorem kidsM_9 {n : ByteArray} (v : JV) (h : rk n = 9) : kidsM n v = v.m := by unfold kidsM; rw [if_neg (by omega), if_pos h]
theorem kidsM_10 {n : ByteArray} (v : JV) (h : rk n = 10) : kidsM n v = kZ v.l := by unfold kidsM; rw [if_neg (by omega), if_neg (by omega), if_pos h]; rfl
theorem one_cells (v : JV) : mcells [(e0, v)] = [[.str ⟨#[]⟩, .int .i64 v.kind, .bool v.b, .bool v.n.neg, .str v.n.digits, .int .i64 v.n.exp, .str v.s, .sl false 8 (lcells v.l), .sl false 9 (mcells v.m)]] := by
  simp [mcells, vcells_eq v]; rfl
theorem rkids_c (name : ByteArray) (v : JV) (σ : List AO) (hl : v.l.length ≤ 1000000000) : ACalls Tryz.prog 67 [.str name, .agg (vcells v)] σ (Ret (.sl false 9 (mcells (kidsM name v))) σ) := by
 refine ACalls_body Tryz.func67 rfl Tryz.ntmps67 (res1 Tryz.results67) (Nat.le_of_ble_eq_true rfl) (fun hcl hal => ?_)
 rw [vcells_eq v]
 have hll := lcells_length v.l
 refine zw2 ?_
 refine zu1 ?_
 refine zt rfl (zc rfl (rsingle_c name _)) ?_
 refine zv1 ?_
 refine AWp_seq ?_
 refine zw1 ?_
 refine AWp_cond rfl (fun h1 => ?_) (fun h1 => ?_)
 ·(try rw [h1]); replace h1 := zcl h1
  refine zu2 ?_
  refine zt rfl (op_buildSlice [[_, _, _, _, _, _, _, _, _]] rfl Tryz.underlying26 Tryz.sizeOf122 Tryz.zeroValue122 rfl (by decide) (by decide) rfl rfl rfl rfl rfl) ?_
  refine zv1 ?_
  refine AWp_slotLe 4 rfl (AVle.full 9 _) ?_ (by decide)
  refine zrt ?_
  rw [kidsM_8 v h1, one_cells]
  exact ResQ_1 rfl hcl (by simp [AV.lt, AV.ltLL, AV.ltL]) (Ret_of rfl)
 ·(try rw [h1]); replace h1 := zcl h1
  refine AWp_skip ?_
  refine AWp_seq ?_
  refine zu3 ?_
  refine zsp 16 rfl (fun h2 => ?_) fun h2 => ?_
  ·rw [h2]; replace h2 := zcl h2
   refine zv3 ?_
   refine AWp_condT rfl ?_
   refine zw3 ?_
   refine zrt ?_
   rw [kidsM_9 v (show rk name = 9 by rw [h2]; decide +kernel)]
   exact ResQ_1 rfl hcl (by simp [AV.lt]) (Ret_of rfl)
  ·rw [h2]; replace h2 := zcl h2
   refine zv3 ?_
   refine AWp_cond rfl (fun h3 => ?_) (fun h3 => ?_)
   ·(try rw [h3]); replace h3 := zcl h3
    refine zw3 ?_
    refine zrt ?_
    rw [kidsM_9 v (show rk name = 9 by rw [h3]; decide +kernel)]
    exact ResQ_1 rfl hcl (by simp [AV.lt]) (Ret_of rfl)
   ·(try rw [h3]); replace h3 := zcl h3
    refine AWp_skip ?_
    refine zw1 ?_
    refine AWp_seq ?_
    refine zu3 ?_
    refine zsp 24 rfl (fun h4 => ?_) fun h4 => ?_
    ·rw [h4]; replace h4 := zcl h4
     have hk10 : rk name = 10 := by rw [h4]; decide +kernel
     refine zv7 ?_
     refine AWp_condT rfl ?_
     refine AWp_seq ?_
     refine AWp_ghostTO 6 9 1 rfl rfl ?_ (by decide)
     refine AWp_regL ?_
     refine zv1 ?_
     refine AWp_block ?_
     -- loop 0 LIVE 3:box 4:assign 6:assign 7:assign
     refine AWp_loop (ι := Nat) (fun i => i ≤ v.l.length) (fun i => ⟨[], [(6, .arr (σ.length + 1) i 9 0 i), (3, .ptr (σ.length + 0) 0), (7, .int .i64 (i : Int))]⟩) (fun i => σ ++ [.box [.int .i64 v.kind, .bool v.b, .bool v.n.neg, .str v.n.digits, .int .i64 v.n.exp, .str v.s, .sl false 8 (lcells v.l), .sl false 9 (mcells v.m)], .arr 9 i (mcells (kZ (v.l.take i))).flatten]) (fun i => v.l.length - i) (0) (Nat.zero_le _) ?_ rfl (fun i hi => ?_)
     ·exact ⟨rfl, rfl, rfl, rfl, trivial⟩
     have hkl : (kZ (v.l.take i)).length = i := by rw [kZ_len, List.length_take]; omega
     have hfl := mflat_len (kZ (v.l.take i))
     refine AWp_seq ?_
     refine zw5 ?_
     refine AWp_cond rfl (fun h5 => ?_) (fun h5 => ?_)
     ·(try rw [h5]); replace h5 := zcl h5
      obtain ⟨x, hx⟩ : ∃ x, v.l[i]? = some x := ⟨_, List.getElem?_eq_getElem (show i < v.l.length by omega)⟩
      refine AWp_skip ?_
      refine AWp_seq ?_
      refine AWp_block ?_
      refine AWp_drawL #[0, 0, 2, 0, 8, 0, 56, 120, 254, 510, 1023, 2047] Tryz.mixed (by decide +kernel) (by decide +kernel) ?_
      refine zd2 ?_
      refine yP rfl rfl (zc rfl (rdig_c i _ (by omega) (by omega))) (trivial) ?_
      refine zd1 ?_
      refine zp1 ?_
      refine zd2 ?_
      rw [vcells_eq x]
      refine zp1 ?_
      refine zd1 ?_
      refine yA rfl rfl (fun _ => op_buildSlice [[_, _, _, _, _, _, _, _, _]] rfl Tryz.underlying26 Tryz.sizeOf122 Tryz.zeroValue122 rfl (by decide) (by decide) rfl rfl rfl rfl rfl) ?_
      refine yE rfl rfl (op_appendArrT rfl 1 (sz := 9) (m := 1) (len := i) (cs := _) rfl (.inr ⟨_, rfl⟩) Tryz.underlying26 Tryz.underlying26 Tryz.type122 rfl rfl rfl (by decide) rfl rfl (by rw [hfl, hkl]) rfl rfl rfl (by show (i + 1) * 128 ≤ _; omega) (by omega) rfl) (⟨.inl rfl, ⟨.inl rfl, ⟨.inl rfl, trivial⟩⟩⟩) (trivial) ?_
      refine zd1 ?_
      refine RP.nil rfl ?_
      refine AWp_regL ?_
      refine zv3 ?_
      refine ⟨i + 1, σ.length + 2, by omega, by omega, by simp, ⟨rfl, rfl, rfl, rfl, trivial⟩, closed_own 2 hcl ?_, ?_, ?_⟩
      ·simp [ownLt, AO.cells, AV.ltL, AV.lt, ofConst1, ltL_append, mflat_lt]
      ·simp [ltE, AV.lt]; (try omega)
      ·rw [kZ_take hx, mcells_snoc, mrow, vcells_eq x]; exact take_own 2
     ·(try rw [h5]); replace h5 := zcl h5
      have hie : i = v.l.length := by omega
      subst hie
      rw [List.take_length]
      refine AWp_exit ?_
      refine AWp_seq ?_
      first | refine AWp_freezeMO 6 1 _ _ (kZ v.l) (kZ_len _) rfl rfl ?_ (by decide) | refine AWp_slotLe 6 rfl (AVle.nils false 9) ?_ (by decide)
      refine AWp_regL ?_
      refine zv2 ?_
      refine zrt ?_
      rw [kidsM_10 v hk10]
      exact ResQ_1 rfl hcl (by simp [AV.lt]) (Ret_of rfl)
    ·rw [h4]; replace h4 := zcl h4
     refine zg4 ?_
     refine zsp 28 rfl (fun h6 => ?_) fun h6 => ?_
     ·rw [h6]; replace h6 := zcl h6
      have hk10 : rk name = 10 := by rw [h6]; decide +kernel
      refine zv3 ?_
      refine AWp_condT rfl ?_
      refine AWp_seq ?_
      refine AWp_ghostTO 6 9 1 rfl rfl ?_ (by decide)
      refine AWp_regL ?_
      refine zv1 ?_
      refine AWp_block ?_
      -- loop 1 LIVE 3:box 4:assign 6:assign 7:assign
      refine AWp_loop (ι := Nat) (fun i => i ≤ v.l.length) (fun i => ⟨[], [(6, .arr (σ.length + 1) i 9 0 i), (3, .ptr (σ.length + 0) 0), (7, .int .i64 (i : Int))]⟩) (fun i => σ ++ [.box [.int .i64 v.kind, .bool v.b, .bool v.n.neg, .str v.n.digits, .int .i64 v.n.exp, .str v.s, .sl false 8 (lcells v.l), .sl false 9 (mcells v.m)], .arr 9 i (mcells (kZ (v.l.take i))).flatten]) (fun i => v.l.length - i) (0) (Nat.zero_le _) ?_ rfl (fun i hi => ?_)
      ·exact ⟨rfl, rfl, rfl, rfl, trivial⟩
      have hkl : (kZ (v.l.take i)).length = i := by rw [kZ_len, List.length_take]; omega
      have hfl := mflat_len (kZ (v.l.take i))
      refine AWp_seq ?_
      refine zw5 ?_
      refine AWp_cond rfl (fun h7 => ?_) (fun h7 => ?_)
      ·(try rw [h7]); replace h7 := zcl h7
       obtain ⟨x, hx⟩ : ∃ x, v.l[i]? = some x := ⟨_, List.getElem?_eq_getElem (show i < v.l.length by omega)⟩
       refine AWp_skip ?_
       refine AWp_seq ?_
       refine AWp_block ?_
       refine AWp_drawL #[0, 0, 2, 0, 8, 0, 56, 120, 254, 510, 1023, 2047] Tryz.mixed (by decide +kernel) (by decide +kernel) ?_
       refine zd2 ?_
       refine yP rfl rfl (zc rfl (rdig_c i _ (by omega) (by omega))) (trivial) ?_
       refine zd1 ?_
       refine zp1 ?_
       refine zd2 ?_
       rw [vcells_eq x]
       refine zp1 ?_
       refine zd1 ?_
       refine yA rfl rfl (fun _ => op_buildSlice [[_, _, _, _, _, _, _, _, _]] rfl Tryz.underlying26 Tryz.sizeOf122 Tryz.zeroValue122 rfl (by decide) (by decide) rfl rfl rfl rfl rfl) ?_
       refine yE rfl rfl (op_appendArrT rfl 1 (sz := 9) (m := 1) (len := i) (cs := _) rfl (.inr ⟨_, rfl⟩) Tryz.underlying26 Tryz.underlying26 Tryz.type122 rfl rfl rfl (by decide) rfl rfl (by rw [hfl, hkl]) rfl rfl rfl (by show (i + 1) * 128 ≤ _; omega) (by omega) rfl) (⟨.inl rfl, ⟨.inl rfl, ⟨.inl rfl, trivial⟩⟩⟩) (trivial) ?_
       refine zd1 ?_
       refine RP.nil rfl ?_
       refine AWp_regL ?_
       refine zv3 ?_
       refine ⟨i + 1, σ.length + 2, by omega, by omega, by simp, ⟨rfl, rfl, rfl, rfl, trivial⟩, closed_own 2 hcl ?_, ?_, ?_⟩
       ·simp [ownLt, AO.cells, AV.ltL, AV.lt, ofConst1, ltL_append, mflat_lt]
       ·simp [ltE, AV.lt]; (try omega)
       ·rw [kZ_take hx, mcells_snoc, mrow, vcells_eq x]; exact take_own 2
      ·(try rw [h7]); replace h7 := zcl h7
       have hie : i = v.l.length := by omega
       subst hie
       rw [List.take_length]
       refine AWp_exit ?_
       refine AWp_seq ?_
       first | refine AWp_freezeMO 6 1 _ _ (kZ v.l) (kZ_len _) rfl rfl ?_ (by decide) | refine AWp_slotLe 6 rfl (AVle.nils false 9) ?_ (by decide)
       refine AWp_regL ?_
       refine zv2 ?_
       refine zrt ?_
       rw [kidsM_10 v hk10]
       exact ResQ_1 rfl hcl (by simp [AV.lt]) (Ret_of rfl)
     ·rw [h6]; replace h6 := zcl h6
      refine zv3 ?_
      refine AWp_cond rfl (fun h8 => ?_) (fun h8 => ?_)
      ·(try rw [h8]); replace h8 := zcl h8
       have hk10 : rk name = 10 := by rw [h8]; decide +kernel
       refine AWp_seq ?_
       refine AWp_ghostTO 6 9 1 rfl rfl ?_ (by decide)
       refine AWp_regL ?_
       refine zv1 ?_
       refine AWp_block ?_
       -- loop 2 LIVE 3:box 4:assign 6:assign 7:assign
       refine AWp_loop (ι := Nat) (fun i => i ≤ v.l.length) (fun i => ⟨[], [(6, .arr (σ.length + 1) i 9 0 i), (3, .ptr (σ.length + 0) 0), (7, .int .i64 (i : Int))]⟩) (fun i => σ ++ [.box [.int .i64 v.kind, .bool v.b, .bool v.n.neg, .str v.n.digits, .int .i64 v.n.exp, .str v.s, .sl false 8 (lcells v.l), .sl false 9 (mcells v.m)], .arr 9 i (mcells (kZ (v.l.take i))).flatten]) (fun i => v.l.length - i) (0) (Nat.zero_le _) ?_ rfl (fun i hi => ?_)
       ·exact ⟨rfl, rfl, rfl, rfl, trivial⟩
       have hkl : (kZ (v.l.take i)).length = i := by rw [kZ_len, List.length_take]; omega
       have hfl := mflat_len (kZ (v.l.take i))
       refine AWp_seq ?_
       refine zw5 ?_
       refine AWp_cond rfl (fun h9 => ?_) (fun h9 => ?_)
       ·(try rw [h9]); replace h9 := zcl h9
        obtain ⟨x, hx⟩ : ∃ x, v.l[i]? = some x := ⟨_, List.getElem?_eq_getElem (show i < v.l.length by omega)⟩
        refine AWp_skip ?_
        refine AWp_seq ?_
        refine AWp_block ?_
        refine AWp_drawL #[0, 0, 2, 0, 8, 0, 56, 120, 254, 510, 1023, 2047] Tryz.mixed (by decide +kernel) (by decide +kernel) ?_
        refine zd2 ?_
        refine yP rfl rfl (zc rfl (rdig_c i _ (by omega) (by omega))) (trivial) ?_
        refine zd1 ?_
        refine zp1 ?_
        refine zd2 ?_
        rw [vcells_eq x]
        refine zp1 ?_
        refine zd1 ?_
        refine yA rfl rfl (fun _ => op_buildSlice [[_, _, _, _, _, _, _, _, _]] rfl Tryz.underlying26 Tryz.sizeOf122 Tryz.zeroValue122 rfl (by decide) (by decide) rfl rfl rfl rfl rfl) ?_
        refine yE rfl rfl (op_appendArrT rfl 1 (sz := 9) (m := 1) (len := i) (cs := _) rfl (.inr ⟨_, rfl⟩) Tryz.underlying26 Tryz.underlying26 Tryz.type122 rfl rfl rfl (by decide) rfl rfl (by rw [hfl, hkl]) rfl rfl rfl (by show (i + 1) * 128 ≤ _; omega) (by omega) rfl) (⟨.inl rfl, ⟨.inl rfl, ⟨.inl rfl, trivial⟩⟩⟩) (trivial) ?_
        refine zd1 ?_
        refine RP.nil rfl ?_
        refine AWp_regL ?_
        refine zv3 ?_
        refine ⟨i + 1, σ.length + 2, by omega, by omega, by simp, ⟨rfl, rfl, rfl, rfl, trivial⟩, closed_own 2 hcl ?_, ?_, ?_⟩
        ·simp [ownLt, AO.cells, AV.ltL, AV.lt, ofConst1, ltL_append, mflat_lt]
        ·simp [ltE, AV.lt]; (try omega)
        ·rw [kZ_take hx, mcells_snoc, mrow, vcells_eq x]; exact take_own 2
       ·(try rw [h9]); replace h9 := zcl h9
        have hie : i = v.l.length := by omega
        subst hie
        rw [List.take_length]
        refine AWp_exit ?_
        refine AWp_seq ?_
        first | refine AWp_freezeMO 6 1 _ _ (kZ v.l) (kZ_len _) rfl rfl ?_ (by decide) | refine AWp_slotLe 6 rfl (AVle.nils false 9) ?_ (by decide)
        refine AWp_regL ?_
        refine zv2 ?_
        refine zrt ?_
        rw [kidsM_10 v hk10]
        exact ResQ_1 rfl hcl (by simp [AV.lt]) (Ret_of rfl)
      ·(try rw [h8]); replace h8 := zcl h8
       refine AWp_skip ?_
       refine AWp_seq ?_
       first | refine AWp_freezeMO 6 1 _ _ (kZ v.l) (kZ_len _) rfl rfl ?_ (by decide) | refine AWp_slotLe 6 rfl (AVle.nils false 9) ?_ (by decide)
       refine AWp_regL ?_
       refine zv2 ?_
       refine zrt ?_
       rw [kidsM_nil v h1 h2 h3 h4 h6 h8]
       exact ResQ_1 rfl hcl (by simp [AV.lt, AV.ltLL]) (Ret_of rfl)
end Lg
set_option maxRecDepth 20000
set_option maxHeartbeats 4000000
namespace Lg
open Go Go.Proofs Go.RowKit
variable [GLay] 
theorem rshape_c (name : ByteArray) (v : JV) (σ : List AO) (hl : v.l.length ≤ 1000000000) (hm : v.m.length ≤ 1000000000) : ACalls Tryz.prog 66 [.str name, .agg (vcells v)] σ (Ret (.int .i64 (rShape name v)) σ) := by
 refine ACalls_body Tryz.func66 rfl Tryz.ntmps66 (res1 Tryz.results66) (Nat.le_of_ble_eq_true rfl) (fun hcl hal => ?_)
 rw [vcells_eq v]
 have hll := lcells_length v.l
 refine zw2 ?_
 refine zw1 ?_
 refine AWp_join (ι := Unit) (fun b => rk name ≠ 0) (fun b => ⟨[], [(5, .bool (kOK (rk name) v))]⟩) (fun b => σ ++ [.box [.int .i64 v.kind, .bool v.b, .bool v.n.neg, .str v.n.digits, .int .i64 v.n.exp, .str v.s, .sl false 8 (lcells v.l), .sl false 9 (mcells v.m)]]) ?_ (fun b hj => ?_)
 ·skip
  refine zw1 ?_
  refine AWp_block ?_
  refine zw2 ?_
  refine AWp_cond rfl (fun h1 => ?_) (fun h1 => ?_)
  ·(try rw [h1]); replace h1 := zcl h1
   have hk : rk name = 1 := by rw [h1]; decide +kernel
   refine zu1 ?_
   refine zt rfl (zc rfl (vcells_eq v ▸ rtxt_c v _ hl)) ?_
   refine zv1 ?_
   refine zu2 ?_
   refine zsp 19 rfl (fun h2 => ?_) fun h2 => ?_
   ·rw [h2]; replace h2 := zcl h2
    refine zv6 ?_
    refine AWp_seq ?_
    refine zw1 ?_
    refine AWp_block ?_
    -- loop 0 LIVE 0:param 3:box 4:assign 5:assign 7:assign 13:move
    refine AWp_loop (ι := Nat) (fun i => i ≤ v.l.length) (fun i => ⟨[], [(3, .ptr (σ.length + 0) 0), (5, .bool (txB v && decide (0 < v.l.length) && (v.l.take i).all tyB)), (7, .int .i64 (i : Int))]⟩) (fun i => σ ++ [_]) (fun i => v.l.length - i) (0) (Nat.zero_le _) ?_ rfl (fun i hi => ?_)
    ·refine ⟨rfl, rfl, ?_, rfl, trivial⟩
     show AV.bool _ = AV.bool _; congr 1; simp [*]
    refine AWp_seq ?_
    refine zw5 ?_
    refine AWp_cond rfl (fun h3 => ?_) (fun h3 => ?_)
    ·(try rw [h3]); replace h3 := zcl h3
     obtain ⟨x, hx⟩ : ∃ x, v.l[i]? = some x := ⟨_, List.getElem?_eq_getElem (show i < v.l.length by omega)⟩
     refine AWp_skip ?_
     refine AWp_seq ?_
     refine AWp_block ?_
     refine zu4 ?_
     rw [vcells_eq x]
     refine zg1 ?_
     refine zt rfl (zc rfl (vcells_eq x ▸ rtyp_c x _)) ?_
     refine zv1 ?_
     refine AWp_regL ?_
     refine zg2 ?_
     refine zsp 39 rfl (fun h4 => ?_) fun h4 => ?_
     ·rw [h4]; replace h4 := zcl h4
      refine zv3 ?_
      refine AWp_regL ?_
      refine zv3 ?_
      refine ⟨i + 1, σ.length + 1, by omega, by omega, by simp, ⟨rfl, rfl, ?_, rfl, trivial⟩, closed_own 1 hcl ?_, ?_, take_own 1⟩
      ·show AV.bool _ = AV.bool _; congr 1; rw [List.take_add_one, hx]; simp only [Option.toList, List.all_append, List.all_cons, List.all_nil, Bool.and_true]; rw [← Bool.and_assoc]; (first | rw [h4] | rw [h7]); rfl
      ·simp [ownLt, AO.cells, AV.ltL, AV.lt]
      ·simp [ltE, AV.lt]
     ·rw [h4]; replace h4 := zcl h4
      refine zv3 ?_
      refine AWp_regL ?_
      refine zv3 ?_
      refine ⟨i + 1, σ.length + 1, by omega, by omega, by simp, ⟨rfl, rfl, ?_, rfl, trivial⟩, closed_own 1 hcl ?_, ?_, take_own 1⟩
      ·show AV.bool _ = AV.bool _; congr 1; rw [List.take_add_one, hx]; simp only [Option.toList, List.all_append, List.all_cons, List.all_nil, Bool.and_true]; rw [← Bool.and_assoc]; (first | rw [h4] | rw [h7]); rfl
      ·simp [ownLt, AO.cells, AV.ltL, AV.lt]
      ·simp [ltE, AV.lt]
    ·(try rw [h3]); replace h3 := zcl h3
     have hie : i = v.l.length := by omega
     subst hie
     rw [List.take_length]
     refine AWp_exit ?_
     refine zu1 ?_
     refine zt rfl (zc rfl (vcells_eq v ▸ rtyp_c v _)) ?_
     refine zv1 ?_
     refine AWp_regL ?_
     refine zg2 ?_
     refine zsp 45 rfl (fun h5 => ?_) fun h5 => ?_
     ·rw [h5]; replace h5 := zcl h5
      refine zv3 ?_
      show ∃ z : Unit, _ ∧ _ ∧ _
      refine ⟨(), (by rw [hk]; decide), ⟨rfl, ?_, trivial⟩, rfl⟩
      rw [hk]; show AV.bool _ = AV.bool _; congr 1 <;> first | (simp only [kOK]; (first | rw [h5] | rw [h8]); simp; done) | (simp [kOK, lcells_length, *]; done) | ((try simp only [lcells_length] at *); simp [kOK, *] <;> (intros; omega))
     ·rw [h5]; replace h5 := zcl h5
      refine zv3 ?_
      show ∃ z : Unit, _ ∧ _ ∧ _
      refine ⟨(), (by rw [hk]; decide), ⟨rfl, ?_, trivial⟩, rfl⟩
      rw [hk]; show AV.bool _ = AV.bool _; congr 1 <;> first | (simp only [kOK]; (first | rw [h5] | rw [h8]); simp; done) | (simp [kOK, lcells_length, *]; done) | ((try simp only [lcells_length] at *); simp [kOK, *] <;> (intros; omega))
   ·rw [h2]; replace h2 := zcl h2
    refine zv6 ?_
    refine AWp_seq ?_
    refine zw1 ?_
    refine AWp_block ?_
    -- loop 1 LIVE 0:param 3:box 4:assign 5:assign 7:assign 13:move
    refine AWp_loop (ι := Nat) (fun i => i ≤ v.l.length) (fun i => ⟨[], [(3, .ptr (σ.length + 0) 0), (5, .bool (txB v && decide (0 < v.l.length) && (v.l.take i).all tyB)), (7, .int .i64 (i : Int))]⟩) (fun i => σ ++ [_]) (fun i => v.l.length - i) (0) (Nat.zero_le _) ?_ rfl (fun i hi => ?_)
    ·refine ⟨rfl, rfl, ?_, rfl, trivial⟩
     show AV.bool _ = AV.bool _; congr 1; simp [*]
    refine AWp_seq ?_
    refine zw5 ?_
    refine AWp_cond rfl (fun h6 => ?_) (fun h6 => ?_)
    ·(try rw [h6]); replace h6 := zcl h6
     obtain ⟨x, hx⟩ : ∃ x, v.l[i]? = some x := ⟨_, List.getElem?_eq_getElem (show i < v.l.length by omega)⟩
     refine AWp_skip ?_
     refine AWp_seq ?_
     refine AWp_block ?_
     refine zu4 ?_
     rw [vcells_eq x]
     refine zg1 ?_
     refine zt rfl (zc rfl (vcells_eq x ▸ rtyp_c x _)) ?_
     refine zv1 ?_
     refine AWp_regL ?_
     refine zg2 ?_
     refine zsp 39 rfl (fun h7 => ?_) fun h7 => ?_
     ·rw [h7]; replace h7 := zcl h7
      refine zv3 ?_
      refine AWp_regL ?_
      refine zv3 ?_
      refine ⟨i + 1, σ.length + 1, by omega, by omega, by simp, ⟨rfl, rfl, ?_, rfl, trivial⟩, closed_own 1 hcl ?_, ?_, take_own 1⟩
      ·show AV.bool _ = AV.bool _; congr 1; rw [List.take_add_one, hx]; simp only [Option.toList, List.all_append, List.all_cons, List.all_nil, Bool.and_true]; rw [← Bool.and_assoc]; (first | rw [h4] | rw [h7]); rfl
      ·simp [ownLt, AO.cells, AV.ltL, AV.lt]
      ·simp [ltE, AV.lt]
     ·rw [h7]; replace h7 := zcl h7
      refine zv3 ?_
      refine AWp_regL ?_
      refine zv3 ?_
      refine ⟨i + 1, σ.length + 1, by omega, by omega, by simp, ⟨rfl, rfl, ?_, rfl, trivial⟩, closed_own 1 hcl ?_, ?_, take_own 1⟩
      ·show AV.bool _ = AV.bool _; congr 1; rw [List.take_add_one, hx]; simp only [Option.toList, List.all_append, List.all_cons, List.all_nil, Bool.and_true]; rw [← Bool.and_assoc]; (first | rw [h4] | rw [h7]); rfl
      ·simp [ownLt, AO.cells, AV.ltL, AV.lt]
      ·simp [ltE, AV.lt]
    ·(try rw [h6]); replace h6 := zcl h6
     have hie : i = v.l.length := by omega
     subst hie
     rw [List.take_length]
     refine AWp_exit ?_
     refine zu1 ?_
     refine zt rfl (zc rfl (vcells_eq v ▸ rtyp_c v _)) ?_
     refine zv1 ?_
     refine AWp_regL ?_
     refine zg2 ?_
     refine zsp 45 rfl (fun h8 => ?_) fun h8 => ?_
     ·rw [h8]; replace h8 := zcl h8
      refine zv3 ?_
      show ∃ z : Unit, _ ∧ _ ∧ _
      refine ⟨(), (by rw [hk]; decide), ⟨rfl, ?_, trivial⟩, rfl⟩
      rw [hk]; show AV.bool _ = AV.bool _; congr 1 <;> first | (simp only [kOK]; (first | rw [h5] | rw [h8]); simp; done) | (simp [kOK, lcells_length, *]; done) | ((try simp only [lcells_length] at *); simp [kOK, *] <;> (intros; omega))
     ·rw [h8]; replace h8 := zcl h8
      refine zv3 ?_
      show ∃ z : Unit, _ ∧ _ ∧ _
      refine ⟨(), (by rw [hk]; decide), ⟨rfl, ?_, trivial⟩, rfl⟩
      rw [hk]; show AV.bool _ = AV.bool _; congr 1 <;> first | (simp only [kOK]; (first | rw [h5] | rw [h8]); simp; done) | (simp [kOK, lcells_length, *]; done) | ((try simp only [lcells_length] at *); simp [kOK, *] <;> (intros; omega))
  ·(try rw [h1]); replace h1 := zcl h1
   refine zw2 ?_
   refine AWp_cond rfl (fun h9 => ?_) (fun h9 => ?_)
   ·(try rw [h9]); replace h9 := zcl h9
    have hk : rk name = 2 := by rw [h9]; decide +kernel
    refine AWp_regL ?_
    refine zg4 ?_
    refine zsp 53 rfl (fun h10 => ?_) fun h10 => ?_
    ·rw [h10]; replace h10 := zcl h10
     refine zv6 ?_
     show ∃ z : Unit, _ ∧ _ ∧ _
     refine ⟨(), (by rw [hk]; decide), ⟨rfl, ?_, trivial⟩, rfl⟩
     rw [hk]; show AV.bool _ = AV.bool _; congr 1 <;> first | (simp only [kOK]; (first | rw [h5] | rw [h8]); simp; done) | (simp [kOK, lcells_length, *]; done) | ((try simp only [lcells_length] at *); simp [kOK, *] <;> (intros; omega))
    ·rw [h10]; replace h10 := zcl h10
     refine zv6 ?_
     show ∃ z : Unit, _ ∧ _ ∧ _
     refine ⟨(), (by rw [hk]; decide), ⟨rfl, ?_, trivial⟩, rfl⟩
     rw [hk]; show AV.bool _ = AV.bool _; congr 1 <;> first | (simp only [kOK]; (first | rw [h5] | rw [h8]); simp; done) | (simp [kOK, lcells_length, *]; done) | ((try simp only [lcells_length] at *); simp [kOK, *] <;> (intros; omega))
   ·(try rw [h9]); replace h9 := zcl h9
    refine zw2 ?_
    refine AWp_cond rfl (fun h11 => ?_) (fun h11 => ?_)
    ·(try rw [h11]); replace h11 := zcl h11
     have hk : rk name = 3 := by rw [h11]; decide +kernel
     refine AWp_regL ?_
     refine zv1 ?_
     show ∃ z : Unit, _ ∧ _ ∧ _
     refine ⟨(), (by rw [hk]; decide), ⟨rfl, ?_, trivial⟩, rfl⟩
     rw [hk]; show AV.bool _ = AV.bool _; congr 1 <;> first | (simp only [kOK]; (first | rw [h5] | rw [h8]); simp; done) | (simp [kOK, lcells_length, *]; done) | ((try simp only [lcells_length] at *); simp [kOK, *] <;> (intros; omega))
    ·(try rw [h11]); replace h11 := zcl h11
     refine AWp_seq ?_
     refine zw2 ?_
     refine AWp_cond rfl (fun h12 => ?_) (fun h12 => ?_)
     ·(try rw [h12]); replace h12 := zcl h12
      have hk : rk name = 4 := by rw [h12]; decide +kernel
      refine AWp_skip ?_
      refine AWp_condT rfl ?_
      refine AWp_regL ?_
      refine zv4 ?_
      show ∃ z : Unit, _ ∧ _ ∧ _
      refine ⟨(), (by rw [hk]; decide), ⟨rfl, ?_, trivial⟩, rfl⟩
      rw [hk]; show AV.bool _ = AV.bool _; congr 1 <;> first | (simp only [kOK]; (first | rw [h5] | rw [h8]); simp; done) | (simp [kOK, lcells_length, *]; done) | ((try simp only [lcells_length] at *); simp [kOK, *] <;> (intros; omega))
     ·(try rw [h12]); replace h12 := zcl h12
      refine AWp_regL ?_
      refine zv2 ?_
      refine AWp_cond rfl (fun h13 => ?_) (fun h13 => ?_)
      ·(try rw [h13]); replace h13 := zcl h13
       have hk : rk name = 4 := by rw [h13]; decide +kernel
       refine AWp_regL ?_
       refine zv4 ?_
       show ∃ z : Unit, _ ∧ _ ∧ _
       refine ⟨(), (by rw [hk]; decide), ⟨rfl, ?_, trivial⟩, rfl⟩
       rw [hk]; show AV.bool _ = AV.bool _; congr 1 <;> first | (simp only [kOK]; (first | rw [h5] | rw [h8]); simp; done) | (simp [kOK, lcells_length, *]; done) | ((try simp only [lcells_length] at *); simp [kOK, *] <;> (intros; omega))
      ·(try rw [h13]); replace h13 := zcl h13
       refine AWp_seq ?_
       refine zw2 ?_
       refine AWp_cond rfl (fun h14 => ?_) (fun h14 => ?_)
       ·(try rw [h14]); replace h14 := zcl h14
        have hk : rk name = 5 := by rw [h14]; decide +kernel
        refine AWp_skip ?_
        refine AWp_condT rfl ?_
        refine zu2 ?_
        refine zt rfl (zc rfl (rwhole_c v.n _)) ?_
        refine zv1 ?_
        refine AWp_regL ?_
        refine zg4 ?_
        refine zsp 78 rfl (fun h15 => ?_) fun h15 => ?_
        ·rw [h15]; replace h15 := zcl h15
         refine zg3 ?_
         refine zsp 81 rfl (fun h16 => ?_) fun h16 => ?_
         ·rw [h16]; replace h16 := zcl h16
          refine zv6 ?_
          show ∃ z : Unit, _ ∧ _ ∧ _
          refine ⟨(), (by rw [hk]; decide), ⟨rfl, ?_, trivial⟩, rfl⟩
          rw [hk]; show AV.bool _ = AV.bool _; congr 1 <;> first | (simp only [kOK]; (first | rw [h5] | rw [h8]); simp; done) | (simp [kOK, lcells_length, *]; done) | ((try simp only [lcells_length] at *); simp [kOK, *] <;> (intros; omega))
         ·rw [h16]; replace h16 := zcl h16
          refine zv6 ?_
          show ∃ z : Unit, _ ∧ _ ∧ _
          refine ⟨(), (by rw [hk]; decide), ⟨rfl, ?_, trivial⟩, rfl⟩
          rw [hk]; show AV.bool _ = AV.bool _; congr 1 <;> first | (simp only [kOK]; (first | rw [h5] | rw [h8]); simp; done) | (simp [kOK, lcells_length, *]; done) | ((try simp only [lcells_length] at *); simp [kOK, *] <;> (intros; omega))
        ·rw [h15]; replace h15 := zcl h15
         refine zv9 ?_
         show ∃ z : Unit, _ ∧ _ ∧ _
         refine ⟨(), (by rw [hk]; decide), ⟨rfl, ?_, trivial⟩, rfl⟩
         rw [hk]; show AV.bool _ = AV.bool _; congr 1 <;> first | (simp only [kOK]; (first | rw [h5] | rw [h8]); simp; done) | (simp [kOK, lcells_length, *]; done) | ((try simp only [lcells_length] at *); simp [kOK, *] <;> (intros; omega))
       ·(try rw [h14]); replace h14 := zcl h14
        refine zw2 ?_
        refine AWp_cond rfl (fun h17 => ?_) (fun h17 => ?_)
        ·(try rw [h17]); replace h17 := zcl h17
         have hk : rk name = 5 := by rw [h17]; decide +kernel
         refine AWp_skip ?_
         refine AWp_condT rfl ?_
         refine zu2 ?_
         refine zt rfl (zc rfl (rwhole_c v.n _)) ?_
         refine zv1 ?_
         refine AWp_regL ?_
         refine zg4 ?_
         refine zsp 78 rfl (fun h18 => ?_) fun h18 => ?_
         ·rw [h18]; replace h18 := zcl h18
          refine zg3 ?_
          refine zsp 81 rfl (fun h19 => ?_) fun h19 => ?_
          ·rw [h19]; replace h19 := zcl h19
           refine zv6 ?_
           show ∃ z : Unit, _ ∧ _ ∧ _
           refine ⟨(), (by rw [hk]; decide), ⟨rfl, ?_, trivial⟩, rfl⟩
           rw [hk]; show AV.bool _ = AV.bool _; congr 1 <;> first | (simp only [kOK]; (first | rw [h5] | rw [h8]); simp; done) | (simp [kOK, lcells_length, *]; done) | ((try simp only [lcells_length] at *); simp [kOK, *] <;> (intros; omega))
          ·rw [h19]; replace h19 := zcl h19
           refine zv6 ?_
           show ∃ z : Unit, _ ∧ _ ∧ _
           refine ⟨(), (by rw [hk]; decide), ⟨rfl, ?_, trivial⟩, rfl⟩
           rw [hk]; show AV.bool _ = AV.bool _; congr 1 <;> first | (simp only [kOK]; (first | rw [h5] | rw [h8]); simp; done) | (simp [kOK, lcells_length, *]; done) | ((try simp only [lcells_length] at *); simp [kOK, *] <;> (intros; omega))
         ·rw [h18]; replace h18 := zcl h18
          refine zv9 ?_
          show ∃ z : Unit, _ ∧ _ ∧ _
          refine ⟨(), (by rw [hk]; decide), ⟨rfl, ?_, trivial⟩, rfl⟩
          rw [hk]; show AV.bool _ = AV.bool _; congr 1 <;> first | (simp only [kOK]; (first | rw [h5] | rw [h8]); simp; done) | (simp [kOK, lcells_length, *]; done) | ((try simp only [lcells_length] at *); simp [kOK, *] <;> (intros; omega))
        ·(try rw [h17]); replace h17 := zcl h17
         refine zw2 ?_
         refine AWp_cond rfl (fun h20 => ?_) (fun h20 => ?_)
         ·(try rw [h20]); replace h20 := zcl h20
          have hk : rk name = 5 := by rw [h20]; decide +kernel
          refine AWp_skip ?_
          refine AWp_condT rfl ?_
          refine zu2 ?_
          refine zt rfl (zc rfl (rwhole_c v.n _)) ?_
          refine zv1 ?_
          refine AWp_regL ?_
          refine zg4 ?_
          refine zsp 78 rfl (fun h21 => ?_) fun h21 => ?_
          ·rw [h21]; replace h21 := zcl h21
           refine zg3 ?_
           refine zsp 81 rfl (fun h22 => ?_) fun h22 => ?_
           ·rw [h22]; replace h22 := zcl h22
            refine zv6 ?_
            show ∃ z : Unit, _ ∧ _ ∧ _
            refine ⟨(), (by rw [hk]; decide), ⟨rfl, ?_, trivial⟩, rfl⟩
            rw [hk]; show AV.bool _ = AV.bool _; congr 1 <;> first | (simp only [kOK]; (first | rw [h5] | rw [h8]); simp; done) | (simp [kOK, lcells_length, *]; done) | ((try simp only [lcells_length] at *); simp [kOK, *] <;> (intros; omega))
           ·rw [h22]; replace h22 := zcl h22
            refine zv6 ?_
            show ∃ z : Unit, _ ∧ _ ∧ _
            refine ⟨(), (by rw [hk]; decide), ⟨rfl, ?_, trivial⟩, rfl⟩
            rw [hk]; show AV.bool _ = AV.bool _; congr 1 <;> first | (simp only [kOK]; (first | rw [h5] | rw [h8]); simp; done) | (simp [kOK, lcells_length, *]; done) | ((try simp only [lcells_length] at *); simp [kOK, *] <;> (intros; omega))
          ·rw [h21]; replace h21 := zcl h21
           refine zv9 ?_
           show ∃ z : Unit, _ ∧ _ ∧ _
           refine ⟨(), (by rw [hk]; decide), ⟨rfl, ?_, trivial⟩, rfl⟩
           rw [hk]; show AV.bool _ = AV.bool _; congr 1 <;> first | (simp only [kOK]; (first | rw [h5] | rw [h8]); simp; done) | (simp [kOK, lcells_length, *]; done) | ((try simp only [lcells_length] at *); simp [kOK, *] <;> (intros; omega))
         ·(try rw [h20]); replace h20 := zcl h20
          refine AWp_regL ?_
          refine zv2 ?_
          refine AWp_cond rfl (fun h23 => ?_) (fun h23 => ?_)
          ·(try rw [h23]); replace h23 := zcl h23
           have hk : rk name = 5 := by rw [h23]; decide +kernel
           refine zu2 ?_
           refine zt rfl (zc rfl (rwhole_c v.n _)) ?_
           refine zv1 ?_
           refine AWp_regL ?_
           refine zg4 ?_
           refine zsp 78 rfl (fun h24 => ?_) fun h24 => ?_
           ·rw [h24]; replace h24 := zcl h24
            refine zg3 ?_
            refine zsp 81 rfl (fun h25 => ?_) fun h25 => ?_
            ·rw [h25]; replace h25 := zcl h25
             refine zv6 ?_
             show ∃ z : Unit, _ ∧ _ ∧ _
             refine ⟨(), (by rw [hk]; decide), ⟨rfl, ?_, trivial⟩, rfl⟩
             rw [hk]; show AV.bool _ = AV.bool _; congr 1 <;> first | (simp only [kOK]; (first | rw [h5] | rw [h8]); simp; done) | (simp [kOK, lcells_length, *]; done) | ((try simp only [lcells_length] at *); simp [kOK, *] <;> (intros; omega))
            ·rw [h25]; replace h25 := zcl h25
             refine zv6 ?_
             show ∃ z : Unit, _ ∧ _ ∧ _
             refine ⟨(), (by rw [hk]; decide), ⟨rfl, ?_, trivial⟩, rfl⟩
             rw [hk]; show AV.bool _ = AV.bool _; congr 1 <;> first | (simp only [kOK]; (first | rw [h5] | rw [h8]); simp; done) | (simp [kOK, lcells_length, *]; done) | ((try simp only [lcells_length] at *); simp [kOK, *] <;> (intros; omega))
           ·rw [h24]; replace h24 := zcl h24
            refine zv9 ?_
            show ∃ z : Unit, _ ∧ _ ∧ _
            refine ⟨(), (by rw [hk]; decide), ⟨rfl, ?_, trivial⟩, rfl⟩
            rw [hk]; show AV.bool _ = AV.bool _; congr 1 <;> first | (simp only [kOK]; (first | rw [h5] | rw [h8]); simp; done) | (simp [kOK, lcells_length, *]; done) | ((try simp only [lcells_length] at *); simp [kOK, *] <;> (intros; omega))
          ·(try rw [h23]); replace h23 := zcl h23
           refine zw2 ?_
           refine AWp_cond rfl (fun h26 => ?_) (fun h26 => ?_)
           ·(try rw [h26]); replace h26 := zcl h26
            have hk : rk name = 6 := by rw [h26]; decide +kernel
            refine AWp_regL ?_
            refine zv4 ?_
            show ∃ z : Unit, _ ∧ _ ∧ _
            refine ⟨(), (by rw [hk]; decide), ⟨rfl, ?_, trivial⟩, rfl⟩
            rw [hk]; show AV.bool _ = AV.bool _; congr 1 <;> first | (simp only [kOK]; (first | rw [h5] | rw [h8]); simp; done) | (simp [kOK, lcells_length, *]; done) | ((try simp only [lcells_length] at *); simp [kOK, *] <;> (intros; omega))
           ·(try rw [h26]); replace h26 := zcl h26
            refine zw2 ?_
            refine AWp_cond rfl (fun h27 => ?_) (fun h27 => ?_)
            ·(try rw [h27]); replace h27 := zcl h27
             have hk : rk name = 7 := by rw [h27]; decide +kernel
             refine AWp_regL ?_
             refine zg1 ?_
             refine zt rfl (zc rfl (vcells_eq v ▸ rtxt_c v _ hl)) ?_
             refine zv1 ?_
             show ∃ z : Unit, _ ∧ _ ∧ _
             refine ⟨(), (by rw [hk]; decide), ⟨rfl, ?_, trivial⟩, rfl⟩
             rw [hk]; show AV.bool _ = AV.bool _; congr 1 <;> first | (simp only [kOK]; (first | rw [h5] | rw [h8]); simp; done) | (simp [kOK, lcells_length, *]; done) | ((try simp only [lcells_length] at *); simp [kOK, *] <;> (intros; omega))
            ·(try rw [h27]); replace h27 := zcl h27
             refine AWp_seq ?_
             refine zw2 ?_
             refine AWp_cond rfl (fun h28 => ?_) (fun h28 => ?_)
             ·(try rw [h28]); replace h28 := zcl h28
              have hk : rk name = 8 := by rw [h28]; decide +kernel
              refine AWp_skip ?_
              refine AWp_condT rfl ?_
              refine AWp_regL ?_
              refine zg1 ?_
              refine zt rfl (zc rfl (vcells_eq v ▸ rsch_c v _)) ?_
              refine zv1 ?_
              show ∃ z : Unit, _ ∧ _ ∧ _
              refine ⟨(), (by rw [hk]; decide), ⟨rfl, ?_, trivial⟩, rfl⟩
              rw [hk]; show AV.bool _ = AV.bool _; congr 1 <;> first | (simp only [kOK]; (first | rw [h5] | rw [h8]); simp; done) | (simp [kOK, lcells_length, *]; done) | ((try simp only [lcells_length] at *); simp [kOK, *] <;> (intros; omega))
             ·(try rw [h28]); replace h28 := zcl h28
              refine zw2 ?_
              refine AWp_cond rfl (fun h29 => ?_) (fun h29 => ?_)
              ·(try rw [h29]); replace h29 := zcl h29
               have hk : rk name = 8 := by rw [h29]; decide +kernel
               refine AWp_skip ?_
               refine AWp_condT rfl ?_
               refine AWp_regL ?_
               refine zg1 ?_
               refine zt rfl (zc rfl (vcells_eq v ▸ rsch_c v _)) ?_
               refine zv1 ?_
               show ∃ z : Unit, _ ∧ _ ∧ _
               refine ⟨(), (by rw [hk]; decide), ⟨rfl, ?_, trivial⟩, rfl⟩
               rw [hk]; show AV.bool _ = AV.bool _; congr 1 <;> first | (simp only [kOK]; (first | rw [h5] | rw [h8]); simp; done) | (simp [kOK, lcells_length, *]; done) | ((try simp only [lcells_length] at *); simp [kOK, *] <;> (intros; omega))
              ·(try rw [h29]); replace h29 := zcl h29
               refine AWp_regL ?_
               refine zv2 ?_
               refine AWp_cond rfl (fun h30 => ?_) (fun h30 => ?_)
               ·(try rw [h30]); replace h30 := zcl h30
                have hk : rk name = 8 := by rw [h30]; decide +kernel
                refine AWp_regL ?_
                refine zg1 ?_
                refine zt rfl (zc rfl (vcells_eq v ▸ rsch_c v _)) ?_
                refine zv1 ?_
                show ∃ z : Unit, _ ∧ _ ∧ _
                refine ⟨(), (by rw [hk]; decide), ⟨rfl, ?_, trivial⟩, rfl⟩
                rw [hk]; show AV.bool _ = AV.bool _; congr 1 <;> first | (simp only [kOK]; (first | rw [h5] | rw [h8]); simp; done) | (simp [kOK, lcells_length, *]; done) | ((try simp only [lcells_length] at *); simp [kOK, *] <;> (intros; omega))
               ·(try rw [h30]); replace h30 := zcl h30
                refine AWp_seq ?_
                refine zw2 ?_
                refine AWp_cond rfl (fun h31 => ?_) (fun h31 => ?_)
                ·(try rw [h31]); replace h31 := zcl h31
                 have hk : rk name = 9 := by rw [h31]; decide +kernel
                 refine AWp_skip ?_
                 refine AWp_condT rfl ?_
                 refine zu2 ?_
                 refine zt rfl (zc rfl (rall_c v.m _ hm)) ?_
                 refine zv1 ?_
                 refine AWp_regL ?_
                 refine zg4 ?_
                 refine zsp 111 rfl (fun h32 => ?_) fun h32 => ?_
                 ·rw [h32]; replace h32 := zcl h32
                  refine zv3 ?_
                  show ∃ z : Unit, _ ∧ _ ∧ _
                  refine ⟨(), (by rw [hk]; decide), ⟨rfl, ?_, trivial⟩, rfl⟩
                  rw [hk]; show AV.bool _ = AV.bool _; congr 1 <;> first | (simp only [kOK]; (first | rw [h5] | rw [h8]); simp; done) | (simp [kOK, lcells_length, *]; done) | ((try simp only [lcells_length] at *); simp [kOK, *] <;> (intros; omega))
                 ·rw [h32]; replace h32 := zcl h32
                  refine zv3 ?_
                  show ∃ z : Unit, _ ∧ _ ∧ _
                  refine ⟨(), (by rw [hk]; decide), ⟨rfl, ?_, trivial⟩, rfl⟩
                  rw [hk]; show AV.bool _ = AV.bool _; congr 1 <;> first | (simp only [kOK]; (first | rw [h5] | rw [h8]); simp; done) | (simp [kOK, lcells_length, *]; done) | ((try simp only [lcells_length] at *); simp [kOK, *] <;> (intros; omega))
                ·(try rw [h31]); replace h31 := zcl h31
                 refine AWp_regL ?_
                 refine zv2 ?_
                 refine AWp_cond rfl (fun h33 => ?_) (fun h33 => ?_)
                 ·(try rw [h33]); replace h33 := zcl h33
                  have hk : rk name = 9 := by rw [h33]; decide +kernel
                  refine zu2 ?_
                  refine zt rfl (zc rfl (rall_c v.m _ hm)) ?_
                  refine zv1 ?_
                  refine AWp_regL ?_
                  refine zg4 ?_
                  refine zsp 111 rfl (fun h34 => ?_) fun h34 => ?_
                  ·rw [h34]; replace h34 := zcl h34
                   refine zv3 ?_
                   show ∃ z : Unit, _ ∧ _ ∧ _
                   refine ⟨(), (by rw [hk]; decide), ⟨rfl, ?_, trivial⟩, rfl⟩
                   rw [hk]; show AV.bool _ = AV.bool _; congr 1 <;> first | (simp only [kOK]; (first | rw [h5] | rw [h8]); simp; done) | (simp [kOK, lcells_length, *]; done) | ((try simp only [lcells_length] at *); simp [kOK, *] <;> (intros; omega))
                  ·rw [h34]; replace h34 := zcl h34
                   refine zv3 ?_
                   show ∃ z : Unit, _ ∧ _ ∧ _
                   refine ⟨(), (by rw [hk]; decide), ⟨rfl, ?_, trivial⟩, rfl⟩
                   rw [hk]; show AV.bool _ = AV.bool _; congr 1 <;> first | (simp only [kOK]; (first | rw [h5] | rw [h8]); simp; done) | (simp [kOK, lcells_length, *]; done) | ((try simp only [lcells_length] at *); simp [kOK, *] <;> (intros; omega))
                 ·(try rw [h33]); replace h33 := zcl h33
                  refine AWp_seq ?_
                  refine zw2 ?_
                  refine AWp_cond rfl (fun h35 => ?_) (fun h35 => ?_)
                  ·(try rw [h35]); replace h35 := zcl h35
                   have hk : rk name = 10 := by rw [h35]; decide +kernel
                   refine AWp_skip ?_
                   refine AWp_condT rfl ?_
                   refine zu2 ?_
                   refine zt rfl (zc rfl (vcells_eq v ▸ rkids_c name v _ hl)) ?_
                   refine zt rfl (zc rfl (rall_c _ _ (by rw [kidsM_10 v hk, kZ_len]; exact hl))) ?_
                   rw [kidsM_10 v hk, kZ_all schB]
                   refine zv1 ?_
                   refine AWp_regL ?_
                   refine zg4 ?_
                   refine zsp 125 rfl (fun h36 => ?_) fun h36 => ?_
                   ·rw [h36]; replace h36 := zcl h36
                    refine zg6 ?_
                    refine zsp 131 rfl (fun h37 => ?_) fun h37 => ?_
                    ·rw [h37]; replace h37 := zcl h37
                     refine zv3 ?_
                     show ∃ z : Unit, _ ∧ _ ∧ _
                     refine ⟨(), (by rw [hk]; decide), ⟨rfl, ?_, trivial⟩, rfl⟩
                     rw [hk]; show AV.bool _ = AV.bool _; congr 1 <;> first | (simp only [kOK]; (first | rw [h5] | rw [h8]); simp; done) | (simp [kOK, lcells_length, *]; done) | ((try simp only [lcells_length] at *); simp [kOK, *] <;> (intros; omega))
                    ·rw [h37]; replace h37 := zcl h37
                     refine zv3 ?_
                     show ∃ z : Unit, _ ∧ _ ∧ _
                     refine ⟨(), (by rw [hk]; decide), ⟨rfl, ?_, trivial⟩, rfl⟩
                     rw [hk]; show AV.bool _ = AV.bool _; congr 1 <;> first | (simp only [kOK]; (first | rw [h5] | rw [h8]); simp; done) | (simp [kOK, lcells_length, *]; done) | ((try simp only [lcells_length] at *); simp [kOK, *] <;> (intros; omega))
                   ·rw [h36]; replace h36 := zcl h36
                    refine zv9 ?_
                    show ∃ z : Unit, _ ∧ _ ∧ _
                    refine ⟨(), (by rw [hk]; decide), ⟨rfl, ?_, trivial⟩, rfl⟩
                    rw [hk]; show AV.bool _ = AV.bool _; congr 1 <;> first | (simp only [kOK]; (first | rw [h5] | rw [h8]); simp; done) | (simp [kOK, lcells_length, *]; done) | ((try simp only [lcells_length] at *); simp [kOK, *] <;> (intros; omega))
                  ·(try rw [h35]); replace h35 := zcl h35
                   refine zw2 ?_
                   refine AWp_cond rfl (fun h38 => ?_) (fun h38 => ?_)
                   ·(try rw [h38]); replace h38 := zcl h38
                    have hk : rk name = 10 := by rw [h38]; decide +kernel
                    refine AWp_skip ?_
                    refine AWp_condT rfl ?_
                    refine zu2 ?_
                    refine zt rfl (zc rfl (vcells_eq v ▸ rkids_c name v _ hl)) ?_
                    refine zt rfl (zc rfl (rall_c _ _ (by rw [kidsM_10 v hk, kZ_len]; exact hl))) ?_
                    rw [kidsM_10 v hk, kZ_all schB]
                    refine zv1 ?_
                    refine AWp_regL ?_
                    refine zg4 ?_
                    refine zsp 125 rfl (fun h39 => ?_) fun h39 => ?_
                    ·rw [h39]; replace h39 := zcl h39
                     refine zg6 ?_
                     refine zsp 131 rfl (fun h40 => ?_) fun h40 => ?_
                     ·rw [h40]; replace h40 := zcl h40
                      refine zv3 ?_
                      show ∃ z : Unit, _ ∧ _ ∧ _
                      refine ⟨(), (by rw [hk]; decide), ⟨rfl, ?_, trivial⟩, rfl⟩
                      rw [hk]; show AV.bool _ = AV.bool _; congr 1 <;> first | (simp only [kOK]; (first | rw [h5] | rw [h8]); simp; done) | (simp [kOK, lcells_length, *]; done) | ((try simp only [lcells_length] at *); simp [kOK, *] <;> (intros; omega))
                     ·rw [h40]; replace h40 := zcl h40
                      refine zv3 ?_
                      show ∃ z : Unit, _ ∧ _ ∧ _
                      refine ⟨(), (by rw [hk]; decide), ⟨rfl, ?_, trivial⟩, rfl⟩
                      rw [hk]; show AV.bool _ = AV.bool _; congr 1 <;> first | (simp only [kOK]; (first | rw [h5] | rw [h8]); simp; done) | (simp [kOK, lcells_length, *]; done) | ((try simp only [lcells_length] at *); simp [kOK, *] <;> (intros; omega))
                    ·rw [h39]; replace h39 := zcl h39
                     refine zv9 ?_
                     show ∃ z : Unit, _ ∧ _ ∧ _
                     refine ⟨(), (by rw [hk]; decide), ⟨rfl, ?_, trivial⟩, rfl⟩
                     rw [hk]; show AV.bool _ = AV.bool _; congr 1 <;> first | (simp only [kOK]; (first | rw [h5] | rw [h8]); simp; done) | (simp [kOK, lcells_length, *]; done) | ((try simp only [lcells_length] at *); simp [kOK, *] <;> (intros; omega))
                   ·(try rw [h38]); replace h38 := zcl h38
                    refine AWp_regL ?_
                    refine zv2 ?_
                    refine AWp_cond rfl (fun h41 => ?_) (fun h41 => ?_)
                    ·(try rw [h41]); replace h41 := zcl h41
                     have hk : rk name = 10 := by rw [h41]; decide +kernel
                     refine zu2 ?_
                     refine zt rfl (zc rfl (vcells_eq v ▸ rkids_c name v _ hl)) ?_
                     refine zt rfl (zc rfl (rall_c _ _ (by rw [kidsM_10 v hk, kZ_len]; exact hl))) ?_
                     rw [kidsM_10 v hk, kZ_all schB]
                     refine zv1 ?_
                     refine AWp_regL ?_
                     refine zg4 ?_
                     refine zsp 125 rfl (fun h42 => ?_) fun h42 => ?_
                     ·rw [h42]; replace h42 := zcl h42
                      refine zg6 ?_
                      refine zsp 131 rfl (fun h43 => ?_) fun h43 => ?_
                      ·rw [h43]; replace h43 := zcl h43
                       refine zv3 ?_
                       show ∃ z : Unit, _ ∧ _ ∧ _
                       refine ⟨(), (by rw [hk]; decide), ⟨rfl, ?_, trivial⟩, rfl⟩
                       rw [hk]; show AV.bool _ = AV.bool _; congr 1 <;> first | (simp only [kOK]; (first | rw [h5] | rw [h8]); simp; done) | (simp [kOK, lcells_length, *]; done) | ((try simp only [lcells_length] at *); simp [kOK, *] <;> (intros; omega))
                      ·rw [h43]; replace h43 := zcl h43
                       refine zv3 ?_
                       show ∃ z : Unit, _ ∧ _ ∧ _
                       refine ⟨(), (by rw [hk]; decide), ⟨rfl, ?_, trivial⟩, rfl⟩
                       rw [hk]; show AV.bool _ = AV.bool _; congr 1 <;> first | (simp only [kOK]; (first | rw [h5] | rw [h8]); simp; done) | (simp [kOK, lcells_length, *]; done) | ((try simp only [lcells_length] at *); simp [kOK, *] <;> (intros; omega))
                     ·rw [h42]; replace h42 := zcl h42
                      refine zv9 ?_
                      show ∃ z : Unit, _ ∧ _ ∧ _
                      refine ⟨(), (by rw [hk]; decide), ⟨rfl, ?_, trivial⟩, rfl⟩
                      rw [hk]; show AV.bool _ = AV.bool _; congr 1 <;> first | (simp only [kOK]; (first | rw [h5] | rw [h8]); simp; done) | (simp [kOK, lcells_length, *]; done) | ((try simp only [lcells_length] at *); simp [kOK, *] <;> (intros; omega))
                    ·(try rw [h41]); replace h41 := zcl h41
                     refine zw2 ?_
                     refine AWp_cond rfl (fun h44 => ?_) (fun h44 => ?_)
                     ·(try rw [h44]); replace h44 := zcl h44
                      have hk : rk name = 11 := by rw [h44]; decide +kernel
                      refine AWp_regL ?_
                      refine zv4 ?_
                      show ∃ z : Unit, _ ∧ _ ∧ _
                      refine ⟨(), (by rw [hk]; decide), ⟨rfl, ?_, trivial⟩, rfl⟩
                      rw [hk]; show AV.bool _ = AV.bool _; congr 1 <;> first | (simp only [kOK]; (first | rw [h5] | rw [h8]); simp; done) | (simp [kOK, lcells_length, *]; done) | ((try simp only [lcells_length] at *); simp [kOK, *] <;> (intros; omega))
                     ·(try rw [h44]); replace h44 := zcl h44
                      refine zw1 ?_
                      refine zrt ?_
                      have hk : rk name = 0 := by simp [rk, kwL, *]
                      exact ResQ_1 rfl hcl trivial (Ret_of (by unfold rShape; rw [if_pos hk]))
 ·skip
  refine AWp_seq ?_
  refine zw2 ?_
  refine AWp_cond rfl (fun h45 => ?_) (fun h45 => ?_)
  ·(try rw [h45]); replace h45 := zcl h45
   refine zw1 ?_
   refine zrt ?_
   exact ResQ_1 rfl hcl trivial (Ret_of (by congr 1; simp [rShape, *]))
  ·(try rw [h45]); replace h45 := zcl h45
   refine AWp_skip ?_
   refine zw1 ?_
   refine zrt ?_
   exact ResQ_1 rfl hcl trivial (Ret_of (by congr 1; simp [rShape, *]))
end Lg
set_option maxRecDepth 20000
set_option maxHeartbeats 4000000
namespace Lg
open Go Go.Proofs Go.RowKit
variable [GLay] 
theorem drop_consN {α : Type} {l : List α} {i : Nat} {x : α} (h : l[i]? = some x) : l.drop i = x :: l.drop (i + 1) := by
  have hi := (List.getElem?_eq_some_iff.1 h).1
  rw [List.drop_eq_getElem_cons hi]; congr 1
  have := List.getElem?_eq_getElem hi
  rw [h] at this; exact (Option.some.inj this).symm
theorem rpath1_c (nm : ByteArray) (σ : List AO) (h : nm.size ≤ 1000000) : ACalls Tryz.prog 65 [.sl true 1 [[.str nm]]] σ (Ret (.str (pth nm)) σ) := by
  have hz : nm.data.toList.length = nm.size := Array.length_toList ..
  have h1 := rpath_c true [nm.data.toList] σ (by show 1 ≤ 2000000; decide) (by intro x hx; rw [List.mem_singleton.1 hx]; omega)
  rw [show srow [nm.data.toList] = [[.str nm]] by simp [srow, ← ba_eta]] at h1
  exact h1
theorem call_suf {P : Program} {f : FuncId} {args : List AV} {σ ρ : List AO} {a b a' b' : AO} {v : AV} (h : ACalls P f args (σ ++ [a, b]) (Ret v (σ ++ [a', b']))) (hc0 : closed σ.length σ) (ha : AV.ltL (σ.length + 2) a.cells) (hb : AV.ltL (σ.length + 2) b.cells) (hx : AV.ltL (σ.length + 2) args) : ACalls P f args (σ ++ (a :: b :: ρ)) (Ret v (σ ++ (a' :: b' :: ρ))) := by
  have e : (σ ++ [a, b]).length = σ.length + 2 := by simp
  have h1 := ACalls_suf (ρ := ρ) h (by rw [e]; exact closed_own 2 hc0 (by simp [ownLt]; exact ⟨ha, hb⟩)) (by rw [e]; exact hx) (by simp)
  simpa using h1
theorem node_s (n : Nat) (ih : ∀ (v : JV) (path : ByteArray) (m : MS) (σ : List AO), closed σ.length σ → jsize v ≤ n → jb v → path.size + 4000010 * (jsize v).toNat ≤ 100000000000 → m.l.length ≤ 200 → ACalls Tryz.prog 39 [.ptr (σ.length + 0) 0, .str path, .agg (vcells v)] (σ ++ [.box [.arr (σ.length + 1) m.l.length 4 0 m.l.length, .int .i64 m.bad, .str m.path], .arr 4 m.l.length (noder m.l).flatten]) (Ret (.tup []) (σ ++ [.box [.arr (σ.length + 1) (rnd n path v m).l.length 4 0 (rnd n path v m).l.length, .int .i64 (rnd n path v m).bad, .str (rnd n path v m).path], .arr 4 (rnd n path v m).l.length (noder (rnd n path v m).l).flatten]))) (v : JV) (path : ByteArray) (m : MS) (σ : List AO) (hc0 : closed σ.length σ) (hn : jsize v ≤ n + 1) (hjb : jb v) (hps : path.size + 4000010 * (jsize v).toNat ≤ 100000000000) (hml : m.l.length ≤ 200) : ACalls Tryz.prog 39 [.ptr (σ.length + 0) 0, .str path, .agg (vcells v)] (σ ++ [.box [.arr (σ.length + 1) m.l.length 4 0 m.l.length, .int .i64 m.bad, .str m.path], .arr 4 m.l.length (noder m.l).flatten]) (Ret (.tup []) (σ ++ [.box [.arr (σ.length + 1) (rnd (n + 1) path v m).l.length 4 0 (rnd (n + 1) path v m).l.length, .int .i64 (rnd (n + 1) path v m).bad, .str (rnd (n + 1) path v m).path], .arr 4 (rnd (n + 1) path v m).l.length (noder (rnd (n + 1) path v m).l).flatten])) := by
 refine ACalls_body Tryz.func39 rfl Tryz.ntmps39 (res0 Tryz.results39) (Nat.le_of_ble_eq_true rfl) (fun hcl hal => ?_)
 rw [vcells_eq v]
 obtain ⟨hb1, hb2, hb3, hb4, hb5, hb6⟩ := (jb_eq v).1 hjb
 have hvs := jsize_eq v
 have hv1 := jsize_pos v
 have hl0 := lsize_nn v.l
 have hmn := mcells_length v.m
 have hnl := noder_len m.l
 have hnf := nflat_len m.l
 refine zw1 ?_
 refine AWp_seq ?_
 refine zw5 ?_
 refine AWp_cond rfl (fun h1 => ?_) (fun h1 => ?_)
 ·(try rw [h1]); replace h1 := zcl h1
  refine zrt ?_
  refine ResQ_KR (σ.length + 2) (by simp) (closed_own 2 hc0 ?_) ⟨rfl, ?_⟩
  ·simp [ownLt, AO.cells, AV.ltL, AV.lt]
  ·rw [rnd_b h1]; exact take_own 2
 ·(try rw [h1]); replace h1 := zcl h1
  refine AWp_skip ?_
  refine zu4 ?_
  refine zt rfl (op_lenS rfl rfl Tryz.underlying31 rfl rfl ⟨_, _, (get_own 1).trans rfl⟩) ?_
  refine zv1 ?_
  refine AWp_seq ?_
  refine zw2 ?_
  refine AWp_cond rfl (fun h2 => ?_) (fun h2 => ?_)
  ·(try rw [h2]); replace h2 := zcl h2
   refine zw4 ?_
   refine zw5 ?_
   refine zrt ?_
   refine ResQ_KR (σ.length + 2) (by simp) (closed_own 2 hc0 ?_) ⟨rfl, ?_⟩
   ·simp [ownLt, AO.cells, AV.ltL, AV.lt]
   ·rw [rnd_m h1 (by omega)]; exact take_own 2
  ·(try rw [h2]); replace h2 := zcl h2
   have h2 : ¬ m.l.length = 200 := by omega
   refine AWp_skip ?_
   refine AWp_seq ?_
   refine AWp_drawL #[0, 0, 2, 6, 14, 0, 0, 64, 192, 0, 512, 2016, 4064, 8190, 16383, 32767, 65535] Tryz.mixed (by decide +kernel) (by decide +kernel) ?_
   refine zd4 ?_
   refine zp1 ?_
   refine zd2 ?_
   refine zp1 ?_
   refine zd2 ?_
   refine zp1 ?_
   refine zd1 ?_
   refine yA rfl rfl (fun _ => op_buildSlice [[_, _, _, _]] rfl Tryz.underlying31 Tryz.sizeOf47 Tryz.zeroValue47 rfl (by decide) (by decide) rfl rfl rfl rfl rfl) ?_
   refine yE rfl rfl (op_appendArrT rfl 1 (sz := 4) (m := 1) (len := m.l.length) (cs := _) rfl (.inr ⟨_, rfl⟩) Tryz.underlying31 Tryz.underlying31 Tryz.type47 rfl rfl rfl (by decide) rfl rfl hnf.symm rfl rfl rfl (by show (m.l.length + 1) * 48 ≤ _; omega) (by omega) rfl) (⟨.inl rfl, ⟨.inl rfl, ⟨.inl rfl, trivial⟩⟩⟩) (trivial) ?_
   refine zd2 ?_
   refine yEN rfl rfl rfl (op_storeO (r := [.arr (σ.length + 1) (m.l.length + 1) 4 0 (m.l.length + 1), .int .i64 m.bad, .str m.path]) rfl Tryz.sizeOf31 rfl rfl rfl rfl rfl (by decide)) (⟨.inl rfl, ⟨.inl rfl, ⟨.inl rfl, trivial⟩⟩⟩) (⟨rfl, trivial⟩) ?_
   refine RP.nil rfl ?_
   refine zw1 ?_
   refine AWp_seq ?_
   refine zw1 ?_
   refine AWp_block ?_
   -- loop 0 LIVE 0:param 1:param 5:box 6:assign 7:assign 8:assign
   have hm1 : (m1 m path v).l.length = m.l.length + 1 := by simp [m1]
   refine AWp_arrLeO 1 (bs' := (noder (m1 m path v).l).flatten) rfl (by simp) (by show AVleL _ (noder (m.l ++ [_])).flatten; rw [noder_snoc]; exact AVleL.append (AVleL.refl _) ⟨AVle.refl _, AVle.refl _, AVle.refl _, AVle.nils false 10, trivial⟩) ?_
   refine AWp_ghostTO 7 10 3 rfl rfl ?_ (by decide)
   refine AWp_heap (σ' := σ ++ [.box [.arr (σ.length + 1) (m1 m path v).l.length 4 0 (m1 m path v).l.length, .int .i64 (m1 m path v).bad, .str (m1 m path v).path], .arr 4 (m1 m path v).l.length (noder (m1 m path v).l).flatten, .box [.int .i64 v.kind, .bool v.b, .bool v.n.neg, .str v.n.digits, .int .i64 v.n.exp, .str v.s, .sl false 8 (lcells v.l), .sl false 9 (mcells v.m)], .arr 10 ([] : List JKey).length (keyr ([] : List JKey)).flatten]) (by rw [hm1]; rfl) ?_
   refine AWp_loop (ι := Nat × List JKey × MS) (fun z => z.1 ≤ v.m.length ∧ rmems (rnd n) path (v.m.drop z.1) z.2.1 z.2.2 = rmems (rnd n) path v.m [] (m1 m path v) ∧ m.l.length < z.2.2.l.length ∧ z.2.2.l.length ≤ 200 ∧ z.2.1.length ≤ z.1) (fun z => ⟨[], [(0, .ptr (σ.length + 0) 0), (1, .str path), (5, .ptr (σ.length + 2) 0), (6, .int .i64 (m.l.length : Int)), (7, .arr (σ.length + 3) z.2.1.length 10 0 z.2.1.length), (8, .int .i64 (z.1 : Int))]⟩) (fun z => σ ++ [.box [.arr (σ.length + 1) z.2.2.l.length 4 0 z.2.2.l.length, .int .i64 z.2.2.bad, .str z.2.2.path], .arr 4 z.2.2.l.length (noder z.2.2.l).flatten, .box [.int .i64 v.kind, .bool v.b, .bool v.n.neg, .str v.n.digits, .int .i64 v.n.exp, .str v.s, .sl false 8 (lcells v.l), .sl false 9 (mcells v.m)], .arr 10 z.2.1.length (keyr z.2.1).flatten]) (fun z => v.m.length - z.1) ((0, [], m1 m path v)) (⟨Nat.zero_le _, by rw [List.drop_zero], by simp only; omega, by simp only; omega, Nat.le_refl _⟩) ?_ rfl (fun z hz => ?_)
   ·exact ⟨rfl, rfl, rfl, rfl, rfl, rfl, rfl, trivial⟩
   obtain ⟨i, ks, u⟩ := z
   obtain ⟨hi1, hi2, hi3, hi4, hi5⟩ := hz
   simp only at hi1 hi2 hi3 hi4 hi5 ⊢
   refine AWp_seq ?_
   refine zu6 ?_
   refine zsp 57 rfl (fun h3 => ?_) fun h3 => ?_
   ·rw [h3]; replace h3 := zcl h3
    refine zv6 ?_
    refine AWp_cond rfl (fun h4 => ?_) (fun h4 => ?_)
    ·(try rw [h4]); replace h4 := zcl h4
     obtain ⟨q, hq⟩ : ∃ q, v.m[i]? = some q := ⟨_, List.getElem?_eq_getElem (show i < v.m.length by omega)⟩
     rw [drop_consN hq] at hi2
     have hqb := mb_get hb6 hq
     have hqj := (jb_eq q.2).1 hqb.2
     have hxs := msize_mem hq
     have hq1 := jsize_pos q.2
     have hpz := pth_size q.1
     have hyf := yflat_len ks
     refine AWp_skip ?_
     refine AWp_seq ?_
     refine AWp_block ?_
     refine zw7 ?_
     refine zu2 ?_
     refine zt rfl (op_buildSlice [[_]] rfl Tryz.underlying48 Tryz.sizeOf9 Tryz.zeroValue9 rfl (by decide) (by decide) rfl rfl rfl rfl rfl) ?_
     refine zt rfl (zc rfl (rpath1_c q.1 _ hqb.1)) ?_
     refine zv2 ?_
     refine zu6 ?_
     rw [vcells_eq q.2]
     refine zg1 ?_
     refine zt rfl (zc rfl (vcells_eq q.2 ▸ rshape_c q.1 q.2 _ (by omega) (by omega))) ?_
     refine zv1 ?_
     refine AWp_seq ?_
     refine zw2 ?_
     refine AWp_cond rfl (fun h5 => ?_) (fun h5 => ?_)
     ·(try rw [h5]); replace h5 := zcl h5
      refine zw5 ?_
      refine zw5 ?_
      refine zrt ?_
      have hfin := hi2.symm.trans (rmems_sq h4 h5)
      refine ResQ_KR (σ.length + 2) (by simp) (closed_own 2 hc0 ?_) ⟨rfl, ?_⟩
      ·simp [ownLt, AO.cells, AV.ltL, AV.lt]
      ·rw [rnd_t h1 h2 hfin]; exact take_own 2
     ·(try rw [h5]); replace h5 := zcl h5
      have hkl := kids_len (n := q.1) hqb.2
      have hmk := mcells_length (kidsM q.1 q.2)
      have hpu : (path ++ pth q.1).size = path.size + (pth q.1).size := ByteArray.size_append ..
      refine AWp_skip ?_
      refine zu6 ?_
      rw [vcells_eq q.2]
      refine zv4 ?_
      refine zu6 ?_
      rw [vcells_eq q.2]
      refine zg1 ?_
      refine zt rfl (zc rfl (vcells_eq q.2 ▸ rkids_c q.1 q.2 _ (by omega))) ?_
      refine zv1 ?_
      refine zu1 ?_
      refine zt rfl (zc rfl (rsingle_c q.1 _)) ?_
      refine zv1 ?_
      refine AWp_seq ?_
      refine AWp_seq ?_
      refine AWp_ghostInO 4 9 2 5 rfl rfl rfl ?_
      refine AWp_regL ?_
      refine zv1 ?_
      refine AWp_block ?_
      -- loop 1 LIVE 0:param 6:assign 7:assign 8:assign 10:assign 12:alloc 13:assign 14:assign 15:assign
      refine AWp_loop (ι := Nat × List JKid × MS) (fun y => y.1 ≤ (kidsM q.1 q.2).length ∧ (y.2.1 ++ (rkids (rnd n) (path ++ pth q.1) (decide (rk q.1 = 8)) ((kidsM q.1 q.2).drop y.1) y.2.2).1, (rkids (rnd n) (path ++ pth q.1) (decide (rk q.1 = 8)) ((kidsM q.1 q.2).drop y.1) y.2.2).2) = rkids (rnd n) (path ++ pth q.1) (decide (rk q.1 = 8)) (kidsM q.1 q.2) u ∧ u.l.length ≤ y.2.2.l.length ∧ y.2.2.l.length ≤ 200 ∧ y.2.1.length = y.1) (fun y => ⟨[], [(0, .ptr (σ.length + 0) 0), (1, .str path), (5, .ptr (σ.length + 2) 0), (6, .int .i64 (m.l.length : Int)), (7, .arr (σ.length + 3) ks.length 10 0 ks.length), (8, .int .i64 (i : Int)), (9, .str q.1), (10, .str (path ++ pth q.1)), (12, .ptr (σ.length + 4) 0), (13, .sl false 9 (mcells (kidsM q.1 q.2))), (14, .bool (decide (rk q.1 = 8))), (15, .int .i64 (y.1 : Int))]⟩) (fun y => σ ++ [.box [.arr (σ.length + 1) y.2.2.l.length 4 0 y.2.2.l.length, .int .i64 y.2.2.bad, .str y.2.2.path], .arr 4 y.2.2.l.length (noder y.2.2.l).flatten, .box [.int .i64 v.kind, .bool v.b, .bool v.n.neg, .str v.n.digits, .int .i64 v.n.exp, .str v.s, .sl false 8 (lcells v.l), .sl false 9 (mcells v.m)], .arr 10 ks.length (keyr ks).flatten, .box [.str q.1, .int .i64 q.2.kind, .bool q.2.b, .bool q.2.n.neg, .str q.2.n.digits, .int .i64 q.2.n.exp, .str q.2.s, .sl false 8 (lcells q.2.l), .sl false 9 (mcells q.2.m), .arr (σ.length + 5) y.1 2 0 y.1], .arr 2 y.1 (kidr y.2.1).flatten]) (fun y => (kidsM q.1 q.2).length - y.1) ((0, [], u)) (⟨Nat.zero_le _, by simp, Nat.le_refl _, hi4, rfl⟩) ?_ rfl (fun y hy => ?_)
      ·exact ⟨rfl, rfl, rfl, rfl, rfl, rfl, rfl, rfl, rfl, rfl, rfl, rfl, rfl, trivial⟩
      obtain ⟨j, kd, w⟩ := y
      obtain ⟨hy1, hy2, hy3, hy4, hy5⟩ := hy
      simp only at hy1 hy2 hy3 hy4 hy5 ⊢
      refine AWp_seq ?_
      refine zw4 ?_
      refine AWp_cond rfl (fun h6 => ?_) (fun h6 => ?_)
      ·(try rw [h6]); replace h6 := zcl h6
       obtain ⟨k, hk⟩ : ∃ k, (kidsM q.1 q.2)[j]? = some k := ⟨_, List.getElem?_eq_getElem (show j < (kidsM q.1 q.2).length by omega)⟩
       rw [drop_consN hk] at hy2
       have hkb := kids_jb hqb.2 hk
       have hks := kids_ks hqb.2 hk
       have hkz := pth_size k.1
       have hk1 := jsize_pos k.2
       have hdf : (kidr kd).flatten.length = j * 2 := by rw [dflat_len, hy5]
       have hnx : (if (decide (rk q.1 = 8)) = true then (path ++ pth q.1) else (path ++ pth q.1) ++ pth k.1).size + 4000010 * (jsize k.2).toNat ≤ 100000000000 := by
        have e1 : (if (decide (rk q.1 = 8)) = true then (path ++ pth q.1) else (path ++ pth q.1) ++ pth k.1).size ≤ path.size + (2 * q.1.size + 1) + (2 * k.1.size + 1) := by
         split
         ·omega
         ·rw [ByteArray.size_append]; omega
        omega
       refine AWp_skip ?_
       refine AWp_seq ?_
       refine AWp_block ?_
       refine zw2 ?_
       refine AWp_join (ι := Unit) (fun b => True) (fun b => ⟨[], [(0, .ptr (σ.length + 0) 0), (1, .str path), (5, .ptr (σ.length + 2) 0), (6, .int .i64 (m.l.length : Int)), (7, .arr (σ.length + 3) ks.length 10 0 ks.length), (8, .int .i64 (i : Int)), (9, .str q.1), (10, .str (path ++ pth q.1)), (12, .ptr (σ.length + 4) 0), (13, .sl false 9 (mcells (kidsM q.1 q.2))), (14, .bool (decide (rk q.1 = 8))), (15, .int .i64 (j : Int)), (16, .str (if (decide (rk q.1 = 8)) = true then (path ++ pth q.1) else (path ++ pth q.1) ++ pth k.1))]⟩) (fun b => σ ++ [.box [.arr (σ.length + 1) w.l.length 4 0 w.l.length, .int .i64 w.bad, .str w.path], .arr 4 w.l.length (noder w.l).flatten, .box [.int .i64 v.kind, .bool v.b, .bool v.n.neg, .str v.n.digits, .int .i64 v.n.exp, .str v.s, .sl false 8 (lcells v.l), .sl false 9 (mcells v.m)], .arr 10 ks.length (keyr ks).flatten, .box [.str q.1, .int .i64 q.2.kind, .bool q.2.b, .bool q.2.n.neg, .str q.2.n.digits, .int .i64 q.2.n.exp, .str q.2.s, .sl false 8 (lcells q.2.l), .sl false 9 (mcells q.2.m), .arr (σ.length + 5) j 2 0 j], .arr 2 j (kidr kd).flatten]) ?_ (fun b hj => ?_)
       ·skip
        refine zw2 ?_
        refine AWp_cond rfl (fun h7 => ?_) (fun h7 => ?_)
        ·(try rw [h7]); replace h7 := zcl h7
         refine AWp_regL ?_
         refine zg6 ?_
         refine zt rfl (op_buildSlice [[_]] rfl Tryz.underlying48 Tryz.sizeOf9 Tryz.zeroValue9 rfl (by decide) (by decide) rfl rfl rfl rfl rfl) ?_
         refine zt rfl (zc rfl (rpath1_c k.1 _ hks)) ?_
         refine zv2 ?_
         have hg : ¬ (decide (rk q.1 = 8)) = true := by simpa using h7
         rw [if_neg hg]
         exact ⟨(), trivial, ⟨rfl, rfl, rfl, rfl, rfl, rfl, rfl, rfl, rfl, rfl, rfl, rfl, rfl, rfl, trivial⟩, rfl⟩
        ·(try rw [h7]); replace h7 := zcl h7
         refine AWp_skip ?_
         have hg : (decide (rk q.1 = 8)) = true := by simpa using h7
         rw [if_pos hg]
         exact ⟨(), trivial, ⟨rfl, rfl, rfl, rfl, rfl, rfl, rfl, rfl, rfl, rfl, rfl, rfl, rfl, rfl, trivial⟩, rfl⟩
       ·skip
        refine AWp_seq ?_
        refine AWp_drawL #[0, 1, 0, 0, 12, 28, 60, 0, 128, 384, 896, 1920, 4092, 8188, 16383, 32767, 65535] Tryz.mixed (by decide +kernel) (by decide +kernel) ?_
        refine zd1 ?_
        refine zp1 ?_
        refine zd4 ?_
        refine zp1 ?_
        refine zd3 ?_
        refine zp1 ?_
        refine yP rfl rfl (op_lenS rfl rfl Tryz.underlying31 rfl rfl ⟨_, _, (get_own 1).trans rfl⟩) (trivial) ?_
        refine zd1 ?_
        refine yA rfl rfl (fun _ => op_buildSlice [[_, _]] rfl Tryz.underlying53 Tryz.sizeOf57 Tryz.zeroValue57 rfl (by decide) (by decide) rfl rfl rfl rfl rfl) ?_
        refine yE rfl rfl (op_appendArrT rfl 5 (sz := 2) (m := 1) (len := j) (cs := _) rfl (.inr ⟨_, rfl⟩) Tryz.underlying53 Tryz.underlying53 Tryz.type57 rfl rfl rfl (by decide) rfl rfl hdf.symm rfl rfl rfl (by show (j + 1) * 24 ≤ _; omega) (by omega) rfl) (⟨.inl rfl, ⟨.inl rfl, ⟨.inl rfl, ⟨.inl rfl, trivial⟩⟩⟩⟩) (trivial) ?_
        refine zd1 ?_
        refine yEN rfl rfl rfl (op_storeO (r := [.str q.1, .int .i64 q.2.kind, .bool q.2.b, .bool q.2.n.neg, .str q.2.n.digits, .int .i64 q.2.n.exp, .str q.2.s, .sl false 8 (lcells q.2.l), .sl false 9 (mcells q.2.m), .arr (σ.length + 5) (j + 1) 2 0 (j + 1)]) rfl Tryz.sizeOf53 rfl rfl rfl rfl rfl (by decide)) (⟨.inl rfl, ⟨.inl rfl, ⟨.inl rfl, ⟨.inl rfl, trivial⟩⟩⟩⟩) (⟨rfl, trivial⟩) ?_
        refine RP.nil rfl ?_
        refine AWp_heap (σ' := σ ++ [.box [.arr (σ.length + 1) w.l.length 4 0 w.l.length, .int .i64 w.bad, .str w.path], .arr 4 w.l.length (noder w.l).flatten, .box [.int .i64 v.kind, .bool v.b, .bool v.n.neg, .str v.n.digits, .int .i64 v.n.exp, .str v.s, .sl false 8 (lcells v.l), .sl false 9 (mcells v.m)], .arr 10 ks.length (keyr ks).flatten, .box [.str q.1, .int .i64 q.2.kind, .bool q.2.b, .bool q.2.n.neg, .str q.2.n.digits, .int .i64 q.2.n.exp, .str q.2.s, .sl false 8 (lcells q.2.l), .sl false 9 (mcells q.2.m), .arr (σ.length + 5) (j + 1) 2 0 (j + 1)], .arr 2 (j + 1) (kidr (kd ++ [⟨k.1, (w.l.length : Int)⟩])).flatten]) (by rw [kidr_snoc]; rfl) ?_
        refine AWp_regL ?_
        refine zg6 ?_
        rw [vcells_eq k.2]
        refine zg1 ?_
        refine zt rfl (zc rfl (call_suf (vcells_eq k.2 ▸ ih k.2 (if (decide (rk q.1 = 8)) = true then (path ++ pth q.1) else (path ++ pth q.1) ++ pth k.1) w σ hc0 (by omega) hkb.1 hnx hy4) hc0 (by simp [AO.cells, AV.ltL, AV.lt]) (by simp [AO.cells]) (by simp [AV.ltL, AV.lt]))) ?_
        refine zon ?_
        refine AWp_regL ?_
        refine zv3 ?_
        have hro := rnd_ok n (if (decide (rk q.1 = 8)) = true then (path ++ pth q.1) else (path ++ pth q.1) ++ pth k.1) k.2 w hy4
        refine ⟨(j + 1, kd ++ [⟨k.1, (w.l.length : Int)⟩], rnd n (if (decide (rk q.1 = 8)) = true then (path ++ pth q.1) else (path ++ pth q.1) ++ pth k.1) k.2 w), σ.length + 6, ⟨by simp only; omega, ?_, by simp only; omega, hro.2, by simp only [List.length_append, List.length_singleton]; omega⟩, by simp only; omega, by simp, ⟨rfl, rfl, rfl, rfl, rfl, rfl, rfl, rfl, rfl, rfl, rfl, rfl, rfl, trivial⟩, closed_own 6 hc0 ?_, ?_, ?_⟩
        ·simp only; rw [← hy2, rkids_q]; simp
        ·simp [ownLt, AO.cells, AV.ltL, AV.lt, ltL_append]
        ·simp [ltE, AV.lt, AV.ltL]
        ·exact take_own 6
      ·(try rw [h6]); replace h6 := zcl h6
       refine AWp_exit ?_
       have hje : j = (kidsM q.1 q.2).length := by omega
       have hrk : rkids (rnd n) (path ++ pth q.1) (decide (rk q.1 = 8)) (kidsM q.1 q.2) u = (kd, w) := by rw [← hy2, hje, List.drop_length]; simp [rkids]
       refine AWp_freezeInO 4 9 5 j 2 j rfl rfl rfl (kidr kd) rfl (kidr_el _) (by rw [kidr_len]; exact hy5) (by decide) ?_
       refine AWp_regL ?_
       refine zg2 ?_
       refine zt rfl (op_buildSlice [[_, _, _, _, _, _, _, _, _, _]] rfl Tryz.underlying45 Tryz.sizeOf55 Tryz.zeroValue55 rfl (by decide) (by decide) rfl rfl rfl rfl rfl) ?_
       refine zt rfl (op_appendArrT rfl 3 (sz := 10) (m := 1) (len := ks.length) (cs := _) rfl (.inr ⟨_, rfl⟩) Tryz.underlying45 Tryz.underlying45 Tryz.type55 rfl rfl rfl (by decide) rfl rfl hyf.symm rfl rfl rfl (by show (ks.length + 1) * 152 ≤ _; omega) (by omega) rfl) ?_
       refine zv1 ?_
       refine AWp_regL ?_
       refine zv3 ?_
       refine ⟨(i + 1, ks ++ [⟨q.1, q.2, kd⟩], w), σ.length + 4, ⟨by simp only; omega, ?_, by simp only; omega, by simp only; omega, by simp only [List.length_append, List.length_singleton]; omega⟩, by simp only; omega, by simp, ⟨rfl, rfl, rfl, rfl, rfl, ?_, rfl, trivial⟩, closed_own 4 hc0 ?_, ?_, ?_⟩
       ·simp only; rw [← hi2, rmems_kq h4 h5 hrk]
       ·rw [List.length_append]; rfl
       ·simp [ownLt, AO.cells, AV.ltL, AV.lt, ltL_append]
       ·simp [ltE, AV.lt, AV.ltL]
       ·refine (take_own 4).trans ?_
        rw [keyr_snoc, keyc_eq, List.length_append]; rfl
    ·(try rw [h4]); replace h4 := zcl h4
     refine AWp_exit ?_
     refine AWp_freezeAO 7 3 ks.length 10 ks.length (keyr ks) rfl rfl (keyr_el _) (keyr_len _) (by decide) ?_ (by decide)
     have hul := noder_len u.l
     have hfin : rmems (rnd n) path v.m [] (m1 m path v) = (false, ks, u) := by
      rw [← hi2]; exact rmems_e (by first | exact .inr (by assumption) | exact .inl (List.drop_eq_nil_of_le (by omega)))
     refine AWp_regL ?_
     refine zg6 ?_
     refine zt rfl (op_indexAddrAO (j := 1) rfl Tryz.underlying31 Tryz.sizeOf47 rfl rfl (by omega) (by omega) rfl) ?_
     refine zt rfl (op_fieldAddrO (fo := 3) rfl Tryz.underlying47 rfl rfl Tryz.sizeOf45 (by decide) rfl ⟨_, _, get_own 1⟩) ?_
     refine ztN rfl rfl (op_storeEl1 (j := 1) (i := m.l.length * 4 + 3) rfl Tryz.sizeOf45 rfl rfl rfl rfl (by omega) rfl (by rw [nflat_len]; omega)) ?_
     refine zon ?_
     (try simp only [blockQ, thenQ])
     refine ResQ_KN (σ.length + 2) (by simp) (closed_own 2 hc0 ?_) ⟨rfl, ?_⟩
     ·simp [ownLt, AO.cells, AV.ltL, AV.lt]
      rw [setk_cells u.l m.l.length ks hi3]; exact nflat_lt _ _
     ·rw [rnd_f h1 h2 hfin]; refine (take_own 2).trans ?_
      rw [← setk_cells u.l m.l.length ks hi3, setk_len]; rfl
   ·rw [h3]; replace h3 := zcl h3
    refine zv6 ?_
    refine AWp_condF rfl ?_
    refine AWp_exit ?_
    refine AWp_freezeAO 7 3 ks.length 10 ks.length (keyr ks) rfl rfl (keyr_el _) (keyr_len _) (by decide) ?_ (by decide)
    have hul := noder_len u.l
    have hfin : rmems (rnd n) path v.m [] (m1 m path v) = (false, ks, u) := by
     rw [← hi2]; exact rmems_e (by first | exact .inr (by assumption) | exact .inl (List.drop_eq_nil_of_le (by omega)))
    refine AWp_regL ?_
    refine zg6 ?_
    refine zt rfl (op_indexAddrAO (j := 1) rfl Tryz.underlying31 Tryz.sizeOf47 rfl rfl (by omega) (by omega) rfl) ?_
    refine zt rfl (op_fieldAddrO (fo := 3) rfl Tryz.underlying47 rfl rfl Tryz.sizeOf45 (by decide) rfl ⟨_, _, get_own 1⟩) ?_
    refine ztN rfl rfl (op_storeEl1 (j := 1) (i := m.l.length * 4 + 3) rfl Tryz.sizeOf45 rfl rfl rfl rfl (by omega) rfl (by rw [nflat_len]; omega)) ?_
    refine zon ?_
    (try simp only [blockQ, thenQ])
    refine ResQ_KN (σ.length + 2) (by simp) (closed_own 2 hc0 ?_) ⟨rfl, ?_⟩
    ·simp [ownLt, AO.cells, AV.ltL, AV.lt]
     rw [setk_cells u.l m.l.length ks hi3]; exact nflat_lt _ _
    ·rw [rnd_f h1 h2 hfin]; refine (take_own 2).trans ?_
     rw [← setk_cells u.l m.l.length ks hi3, setk_len]; rfl
end Lg
set_option maxRecDepth 20000
set_option maxHeartbeats 4000000
namespace Lg
open Go Go.Proofs Go.RowKit
variable [GLay] 
theorem node_any : ∀ (n : Nat) (v : JV) (path : ByteArray) (m : MS) (σ : List AO), closed σ.length σ → jsize v ≤ n → jb v → path.size + 4000010 * (jsize v).toNat ≤ 100000000000 → m.l.length ≤ 200 → ACalls Tryz.prog 39 [.ptr (σ.length + 0) 0, .str path, .agg (vcells v)] (σ ++ [.box [.arr (σ.length + 1) m.l.length 4 0 m.l.length, .int .i64 m.bad, .str m.path], .arr 4 m.l.length (noder m.l).flatten]) (Ret (.tup []) (σ ++ [.box [.arr (σ.length + 1) (rnd n path v m).l.length 4 0 (rnd n path v m).l.length, .int .i64 (rnd n path v m).bad, .str (rnd n path v m).path], .arr 4 (rnd n path v m).l.length (noder (rnd n path v m).l).flatten]))
  | 0, v, path, m, σ, hc, hn, _, _, _ => by have := jsize_pos v; omega
  | n + 1, v, path, m, σ, hc, hn, hjb, hps, hml => node_s n (node_any n) v path m σ hc (by omega) hjb hps hml
theorem node_at (a : AO) (v : JV) (path : ByteArray) (m : MS) (σ : List AO) (hc : closed σ.length σ) (ha : AV.ltL (σ.length + 1) a.cells) (hjb : jb v) (hps : path.size + 4000010 * (jsize v).toNat ≤ 100000000000) (hml : m.l.length ≤ 200) : ACalls Tryz.prog 39 [.ptr (σ.length + 1) 0, .str path, .agg (vcells v)] (σ ++ [a, .box [.arr (σ.length + 2) m.l.length 4 0 m.l.length, .int .i64 m.bad, .str m.path], .arr 4 m.l.length (noder m.l).flatten]) (Ret (.tup []) (σ ++ [a, .box [.arr (σ.length + 2) (rnd (jsize v).toNat path v m).l.length 4 0 (rnd (jsize v).toNat path v m).l.length, .int .i64 (rnd (jsize v).toNat path v m).bad, .str (rnd (jsize v).toNat path v m).path], .arr 4 (rnd (jsize v).toNat path v m).l.length (noder (rnd (jsize v).toNat path v m).l).flatten])) := by
  have hj := jsize_pos v
  have h := node_any (jsize v).toNat v path m (σ ++ [a]) (by
    have := closed_own (l := [a]) 1 hc (by simp [ownLt]; exact ha)
    simpa using this) (by omega) hjb hps hml
  simpa [List.append_assoc, Nat.add_assoc] using h
theorem rcomp_c (v : JV) (cs : List AV) (σ : List AO) (hc : vcells v = cs) (hjb : jb v) (hsz : jsize v ≤ 10000) : ACalls Tryz.prog 12 [.agg cs] σ (Ret (.tup [.sl false 4 (noder (jcomp v).1), .int .i64 (jcomp v).2.1, .str (jcomp v).2.2]) σ) := by
 refine ACalls_body Tryz.func12 rfl Tryz.ntmps12 (res3 Tryz.results12) (Nat.le_of_ble_eq_true rfl) (fun hcl hal => ?_)
 subst hc
 rw [vcells_eq v]
 have hro := rnd_ok (jsize v).toNat e0 v (⟨[], 0, e0⟩ : MS) (by decide)
 refine zw4 ?_
 refine zu1 ?_
 refine zt rfl (zc rfl (vcells_eq v ▸ rsch_c v _)) ?_
 refine zv1 ?_
 refine AWp_seq ?_
 refine zw2 ?_
 refine AWp_cond rfl (fun h1 => ?_) (fun h1 => ?_)
 ·(try rw [h1]); replace h1 := zcl h1
  have hs : schB v = false := by simpa using h1
  refine zw3 ?_
  refine AWp_slotLe 2 rfl (AVle.nils false 4) ?_ (by decide)
  refine zrt ?_
  rw [jcomp_n hs]
  exact ResQ_3 rfl rfl rfl hcl (by simp [AV.lt, AV.ltL, AV.ltLL]) ⟨rfl, rfl⟩
 ·(try rw [h1]); replace h1 := zcl h1
  have hs : schB v = true := by simpa using h1
  refine AWp_skip ?_
  refine zw3 ?_
  refine AWp_seq ?_
  refine AWp_ghostInO 1 0 4 2 rfl rfl rfl ?_
  refine AWp_heap (σ' := σ ++ [.box [.int .i64 v.kind, .bool v.b, .bool v.n.neg, .str v.n.digits, .int .i64 v.n.exp, .str v.s, .sl false 8 (lcells v.l), .sl false 9 (mcells v.m)], .box [.arr (σ.length + 2) (⟨[], 0, e0⟩ : MS).l.length 4 0 (⟨[], 0, e0⟩ : MS).l.length, .int .i64 (⟨[], 0, e0⟩ : MS).bad, .str (⟨[], 0, e0⟩ : MS).path], .arr 4 (⟨[], 0, e0⟩ : MS).l.length (noder (⟨[], 0, e0⟩ : MS).l).flatten]) rfl ?_
  refine AWp_regL ?_
  refine zg2 ?_
  refine zt rfl (zc rfl (vcells_eq v ▸ node_at (.box [.int .i64 v.kind, .bool v.b, .bool v.n.neg, .str v.n.digits, .int .i64 v.n.exp, .str v.s, .sl false 8 (lcells v.l), .sl false 9 (mcells v.m)]) v e0 (⟨[], 0, e0⟩ : MS) σ hcl (by simp [AO.cells, AV.ltL, AV.lt]) hjb (by show 0 + _ ≤ _; omega) (by decide))) ?_
  refine zon ?_
  refine AWp_seq ?_
  refine AWp_seq ?_
  refine AWp_heap (σ' := σ ++ [.box [.int .i64 v.kind, .bool v.b, .bool v.n.neg, .str v.n.digits, .int .i64 v.n.exp, .str v.s, .sl false 8 (lcells v.l), .sl false 9 (mcells v.m)], .box [.arr (σ.length + 2) (rnode v).l.length 4 0 (rnode v).l.length, .int .i64 (rnode v).bad, .str (rnode v).path], .arr 4 (rnode v).l.length (noder (rnode v).l).flatten]) rfl ?_
  refine AWp_regL ?_
  refine zv5 ?_
  refine AWp_cond rfl (fun h2 => ?_) (fun h2 => ?_)
  ·(try rw [h2]); replace h2 := zcl h2
   refine AWp_seq ?_
   refine AWp_drawL #[0, 1, 3, 7, 0, 16, 48, 112, 0, 271, 1023] Tryz.mixed (by decide +kernel) (by decide +kernel) ?_
   refine zd3 ?_
   refine zp1 ?_
   refine zd3 ?_
   refine zp1 ?_
   refine zd3 ?_
   refine RP.nil rfl ?_
   refine AWp_slotLe 2 rfl (AVle.nils false 4) ?_ (by decide)
   refine zrt ?_
   rw [jcomp_b hs h2]
   exact ResQ_3 rfl rfl rfl hcl (by simp [AV.lt, AV.ltL, AV.ltLL]) ⟨rfl, rfl⟩
  ·(try rw [h2]); replace h2 := zcl h2
   refine AWp_skip ?_
   refine zw7 ?_
   refine AWp_freezeAO 2 2 (rnode v).l.length 4 (rnode v).l.length (noder (rnode v).l) rfl rfl (noder_el _) (noder_len _) (by decide) ?_ (by decide)
   refine zrt ?_
   rw [jcomp_y hs h2]
   exact ResQ_3 rfl rfl rfl hcl (by simp [AV.lt, AV.ltL]) ⟨rfl, rfl⟩
end Lg
set_option maxRecDepth 20000
set_option maxHeartbeats 4000000
namespace Lg
open Go Go.Proofs Go.RowKit
variable [GLay] 
theorem plc_c (nm : ByteArray) (σ : List AO) : ACalls Tryz.prog 150 [.str nm] σ (Ret (.bool (plc nm)) σ) := by
 refine ACalls_body Tryz.func150 rfl Tryz.ntmps150 (res1 Tryz.results150) (Nat.le_of_ble_eq_true rfl) (fun hcl hal => ?_)
 refine zw1 ?_
 refine zu3 ?_
 refine zsp 5 rfl (fun h1 => ?_) fun h1 => ?_
 ·rw [h1]; replace h1 := zcl h1
  refine zg10 ?_
  refine zg6 ?_
  refine zon ?_
  refine zrt ?_
  refine ResQ_10 rfl hcl trivial (Ret_of ?_)
  simp_all [plc, cREF, cALL, cANY, cONE, cNOT] <;> congr
 ·rw [h1]; replace h1 := zcl h1
  refine zg4 ?_
  refine zsp 9 rfl (fun h2 => ?_) fun h2 => ?_
  ·rw [h2]; replace h2 := zcl h2
   refine zg10 ?_
   refine zg2 ?_
   refine zon ?_
   refine zrt ?_
   refine ResQ_10 rfl hcl trivial (Ret_of ?_)
   simp_all [plc, cREF, cALL, cANY, cONE, cNOT] <;> congr
  ·rw [h2]; replace h2 := zcl h2
   refine zg4 ?_
   refine zsp 13 rfl (fun h3 => ?_) fun h3 => ?_
   ·rw [h3]; replace h3 := zcl h3
    refine zv8 ?_
    refine zrt ?_
    refine ResQ_10 rfl hcl trivial (Ret_of ?_)
    simp_all [plc, cREF, cALL, cANY, cONE, cNOT] <;> congr
   ·rw [h3]; replace h3 := zcl h3
    refine zg4 ?_
    refine zsp 17 rfl (fun h4 => ?_) fun h4 => ?_
    ·rw [h4]; replace h4 := zcl h4
     refine zv4 ?_
     refine zrt ?_
     refine ResQ_10 rfl hcl trivial (Ret_of ?_)
     simp_all [plc, cREF, cALL, cANY, cONE, cNOT] <;> congr
    ·rw [h4]; replace h4 := zcl h4
     refine zv4 ?_
     refine zrt ?_
     refine ResQ_10 rfl hcl trivial (Ret_of ?_)
     simp_all [plc, cREF, cALL, cANY, cONE, cNOT] <;> congr

theorem reach_c (f : Bool) (o : List JNode) (es : List (List AV)) (i : Nat) (σ : List AO) (he : es = noder o) (hok : LOK o) (hi : i < o.length) : ACalls Tryz.prog 111 [.sl f 4 es, .int .i64 (i : Int)] σ (Ret (.sl false 1 (boolr (reachL o i))) σ) := by
 refine ACalls_body Tryz.func111 rfl Tryz.ntmps111 (res1 Tryz.results111) (Nat.le_of_ble_eq_true rfl) (fun hcl hal => ?_)
 subst he
 have hnl := noder_len o
 have hll := hok.le
 have hor := hok.out
 refine zw1 ?_
 refine zu2 ?_
 refine zt rfl (op_makeSlice1 (n := (noder o).length) (c := .bool false) (b := .bool false) rfl Tryz.underlying182 Tryz.type4 rfl rfl rfl (fun s => .bool false) rfl rfl (by omega) (by omega) (by decide)) ?_
 refine zv1 ?_
 refine zu1 ?_
 refine zt rfl (op_buildSliceArrT rfl (n := 1) (cs := [.int .i64 (i : Int)]) rfl rfl (op_buildSliceArr rfl Tryz.underlying44 Tryz.sizeOf3 Tryz.zeroValue3 rfl (by decide) (by decide) rfl rfl rfl)) ?_
 refine zv1 ?_
 refine AWp_seq ?_
 refine AWp_block ?_
 -- loop 0 LIVE 0:param 4:assign 5:assign 6:assign
 refine AWp_heap (σ' := σ ++ [.arr 1 0 (boolc (List.replicate o.length false)), .arr 1 0 (intc ([] ++ [i]))]) (by rw [hnl]; simp [boolc, intc]) ?_
 refine AWp_loop (ι := List Nat × List Nat × List Bool × Nat) (fun z => BQ o i none [] z.2.1 z.2.2.1 ∧ cntF z.2.2.1 + z.2.1.length ≤ o.length + 1) (fun z => ⟨[], [(0, .sl f 4 (noder o)), (5, .arr (σ.length + 0) 0 1 0 o.length), (6, .arr (σ.length + 1) z.2.2.2 1 z.1.length z.2.1.length)]⟩) (fun z => σ ++ [.arr 1 0 (boolc z.2.2.1), .arr 1 z.2.2.2 (intc (z.1 ++ z.2.1))]) (fun z => cntF z.2.2.1 + z.2.1.length) (([], [i], List.replicate o.length false, 0)) (⟨BQ_start hi, by simp [cntF]⟩) ?_ rfl (fun z hz => ?_)
 ·exact ⟨rfl, rfl, by rw [← hnl]; rfl, rfl, trivial⟩
 obtain ⟨pr, T0, S, g⟩ := z
 obtain ⟨hz, hzc⟩ := hz
 simp only at hz hzc ⊢
 refine AWp_seq ?_
 refine zu1 ?_
 refine zt rfl (op_lenS rfl rfl Tryz.underlying44 rfl rfl ⟨_, _, (get_own 1).trans rfl⟩) ?_
 refine zv1 ?_
 refine AWp_cond rfl (fun h1 => ?_) (fun h1 => ?_)
 ·(try rw [h1]); replace h1 := zcl h1
  obtain ⟨t, T, rfl⟩ : ∃ t r, T0 = t :: r := by cases T0 with | nil => simp at h1 | cons t r => exact ⟨t, r, rfl⟩
  have htl := (hz.tin t (.head _)).1
  obtain ⟨n, hn⟩ : ∃ n, o[t]? = some n := ⟨_, List.getElem?_eq_getElem htl⟩
  have hnm := List.mem_of_getElem? hn
  have hnk := hok.kz n hnm
  have hnk1 := hnk.1
  have hyl := keyr_len n.keys
  refine AWp_skip ?_
  refine AWp_block ?_
  refine zu2 ?_
  refine zt rfl (op_indexAddrArr rfl Tryz.underlying44 Tryz.sizeOf3 rfl ((get_own 1).trans rfl) rfl (by omega) (by simp)) ?_
  refine zt rfl (op_load1 rfl Tryz.isAgg3 (ldv_el (j := 1) (i := pr.length) rfl (intc_head _ _ _) (by simp))) ?_
  refine zt rfl (op_indexAddr rfl Tryz.underlying31 Tryz.sizeOf47 rfl rfl (by omega) (noder_get hn)) ?_
  refine zv3 ?_
  refine zu1 ?_
  refine zt rfl (op_sliceArr 1 ((t :: T).length : Nat) rfl Tryz.underlying44 Tryz.sizeOf3 rfl ((get_own 1).trans rfl) (by first | exact ⟨_, rfl⟩ | rfl) (by first | exact ⟨_, rfl⟩ | rfl) (by omega) (by simp; omega) (by omega)) ?_
  rw [show pr.length + Int.toNat 1 = (pr ++ [t]).length by simp, show (((t :: T).length : Nat) : Int).toNat - Int.toNat 1 = T.length by simp]
  refine zv1 ?_
  refine AWp_seq ?_
  refine AWp_heap (σ' := σ ++ [.arr 1 0 (boolc S), .arr 1 g (intc ((pr ++ [t]) ++ T)), .box [.str n.path, .bool n.all, .bool n.pass, .sl false 10 (keyr n.keys)]]) (by simp) ?_
  refine AWp_regL ?_
  refine zv1 ?_
  refine AWp_block ?_
  -- loop 1 LIVE 4:assign 5:assign 6:assign 7:alloc 8:assign
  refine AWp_loop (ι := Nat × List Nat × List Nat × List Bool × Nat) (fun y => y.1 ≤ n.keys.length ∧ BQ o i (some t) (outs (n.keys.take y.1)) y.2.2.1 y.2.2.2.1 ∧ cntF y.2.2.2.1 + y.2.2.1.length = cntF S + T.length) (fun y => ⟨[], [(0, .sl f 4 (noder o)), (5, .arr (σ.length + 0) 0 1 0 o.length), (6, .arr (σ.length + 1) y.2.2.2.2 1 y.2.1.length y.2.2.1.length), (7, .ptr (σ.length + 2) 0), (8, .int .i64 (y.1 : Int))]⟩) (fun y => σ ++ [.arr 1 0 (boolc y.2.2.2.1), .arr 1 y.2.2.2.2 (intc (y.2.1 ++ y.2.2.1)), .box [.str n.path, .bool n.all, .bool n.pass, .sl false 10 (keyr n.keys)]]) (fun y => n.keys.length - y.1) ((0, pr ++ [t], T, S, g)) (⟨Nat.zero_le _, by simpa [outs] using BQ_pop hz, rfl⟩) ?_ rfl (fun y hy => ?_)
  ·exact ⟨rfl, rfl, rfl, rfl, rfl, rfl, trivial⟩
  obtain ⟨k, pq, Tq, Sq, gq⟩ := y
  obtain ⟨hy1, hy2, hy3⟩ := hy
  simp only at hy1 hy2 hy3 ⊢
  refine AWp_seq ?_
  refine zw5 ?_
  refine AWp_cond rfl (fun h2 => ?_) (fun h2 => ?_)
  ·(try rw [h2]); replace h2 := zcl h2
   obtain ⟨q, hq⟩ : ∃ q, n.keys[k]? = some q := ⟨_, List.getElem?_eq_getElem (show k < n.keys.length by omega)⟩
   have hqm := List.mem_of_getElem? hq
   have hqk := (hnk.2 q hqm).2.2
   have hdl := kidr_len q.kids
   refine AWp_skip ?_
   refine AWp_seq ?_
   refine AWp_block ?_
   refine zu3 ?_
   refine zt rfl (op_indexAddr rfl Tryz.underlying45 Tryz.sizeOf55 rfl rfl (by omega) (keyr_get hq)) ?_
   refine zg2 ?_
   refine zt rfl (zc rfl (plc_c q.name _)) ?_
   refine zv1 ?_
   refine zw1 ?_
   refine AWp_block ?_
   -- loop 2 LIVE 4:assign 5:assign 6:assign 7:alloc 8:assign 9:assign 10:assign
   refine AWp_loop (ι := Nat × List Nat × List Nat × List Bool × Nat) (fun x => (plc q.name = true → x.1 ≤ q.kids.length) ∧ (plc q.name = false → x.1 = 0) ∧ BQ o i (some t) (outs (n.keys.take k) ++ (if plc q.name = true then outD (q.kids.take x.1) else [])) x.2.2.1 x.2.2.2.1 ∧ cntF x.2.2.2.1 + x.2.2.1.length = cntF S + T.length) (fun x => ⟨[], [(0, .sl f 4 (noder o)), (5, .arr (σ.length + 0) 0 1 0 o.length), (6, .arr (σ.length + 1) x.2.2.2.2 1 x.2.1.length x.2.2.1.length), (7, .ptr (σ.length + 2) 0), (8, .int .i64 (k : Int)), (9, .bool (plc q.name)), (10, .int .i64 (x.1 : Int))]⟩) (fun x => σ ++ [.arr 1 0 (boolc x.2.2.2.1), .arr 1 x.2.2.2.2 (intc (x.2.1 ++ x.2.2.1)), .box [.str n.path, .bool n.all, .bool n.pass, .sl false 10 (keyr n.keys)]]) (fun x => q.kids.length - x.1) ((0, pq, Tq, Sq, gq)) (⟨fun _ => Nat.zero_le _, fun _ => rfl, by simpa [outD] using hy2, hy3⟩) ?_ rfl (fun x hx => ?_)
   ·exact ⟨rfl, rfl, rfl, rfl, rfl, rfl, rfl, rfl, trivial⟩
   obtain ⟨j, px, Tx, Sx, gx⟩ := x
   obtain ⟨hx1, hx2, hx3, hx4⟩ := hx
   simp only at hx1 hx2 hx3 hx4 ⊢
   simp only [List.length_cons] at hzc
   refine AWp_seq ?_
   refine zu4 ?_
   refine zt rfl (op_indexAddr rfl Tryz.underlying45 Tryz.sizeOf55 rfl rfl (by omega) (keyr_get hq)) ?_
   rw [keyc_eq]
   refine zg5 ?_
   refine zsp 51 rfl (fun h3 => ?_) fun h3 => ?_
   ·rw [h3]; replace h3 := zcl h3
    refine zv2 ?_
    refine AWp_cond rfl (fun h4 => ?_) (fun h4 => ?_)
    ·(try rw [h4]); replace h4 := zcl h4
     obtain ⟨d, hd⟩ : ∃ d, q.kids[j]? = some d := ⟨_, List.getElem?_eq_getElem (show j < q.kids.length by omega)⟩
     have hdr := hok.kr n hnm q hqm d (List.mem_of_getElem? hd)
     obtain ⟨dn, hdn⟩ : ∃ k : Nat, d.node = k := ⟨d.node.toNat, by omega⟩
     have hdo := mem_outs hq h4 hd
     rw [hdn] at hdr
     have hdt : d.node.toNat = dn := by rw [hdn]; rfl
     rw [hdt] at hdo
     have hSl := hx3.len
     obtain ⟨sb, hsb⟩ : ∃ b, Sx[dn]? = some b := ⟨_, List.getElem?_eq_getElem (show dn < Sx.length by omega)⟩
     have hj1 := hx1 h4
     rw [if_pos h4] at hx3
     refine AWp_skip ?_
     refine AWp_seq ?_
     refine AWp_block ?_
     refine zu3 ?_
     refine zt rfl (op_indexAddr rfl Tryz.underlying45 Tryz.sizeOf55 rfl rfl (by omega) (keyr_get hq)) ?_
     rw [keyc_eq]
     refine zg3 ?_
     refine zt rfl (op_indexAddr rfl Tryz.underlying53 Tryz.sizeOf57 rfl rfl (by omega) (kidr_get hd)) ?_
     refine zg2 ?_
     rw [hdn]
     refine zv1 ?_
     refine zu2 ?_
     refine zt rfl (op_indexAddrAO (j := 0) rfl Tryz.underlying182 Tryz.sizeOf4 rfl rfl (by omega) (by omega) rfl) ?_
     refine zt rfl (op_load1 rfl Tryz.isAgg4 (ldv_el (j := 0) (i := dn) rfl (boolc_get hsb) (by simp))) ?_
     refine zv1 ?_
     refine AWp_cond rfl (fun h5 => ?_) (fun h5 => ?_)
     ·(try rw [h5]); replace h5 := zcl h5
      refine zu2 ?_
      refine zt rfl (op_indexAddrAO (j := 0) rfl Tryz.underlying182 Tryz.sizeOf4 rfl rfl (by omega) (by omega) rfl) ?_
      refine ztN rfl rfl (op_storeEl1 (j := 0) (i := dn) rfl Tryz.sizeOf4 rfl rfl rfl rfl (by simp) rfl (by rw [boolc_len]; omega)) ?_
      refine zon ?_
      refine AWp_regL ?_
      refine zg2 ?_
      refine zt rfl (op_buildSlice [[_]] rfl Tryz.underlying44 Tryz.sizeOf3 Tryz.zeroValue3 rfl (by decide) (by decide) rfl rfl rfl rfl rfl) ?_
      refine zt rfl (op_appendArr (p := σ.length + 1) (off := px.length) (len := Tx.length) (sz := 1) (m := 1) (cs := [.int .i64 (dn : Int)]) rfl (.inr ⟨_, rfl⟩) Tryz.underlying44 Tryz.underlying44 Tryz.type3 rfl rfl rfl (by decide) rfl ((get_own 1).trans rfl) (by rw [intc_len]; simp) rfl rfl rfl (by show (Tx.length + 1) * 8 ≤ _; omega) (by omega) rfl) ?_
      rw [set_own]
      refine zv1 ?_
      refine AWp_regL ?_
      refine zv3 ?_
      have hsf : Sx[dn]? = some false := by cases sb <;> simp_all
      have hcs := cntF_set hsf
      refine ⟨(j + 1, [], Tx ++ [dn], Sx.set dn true, gx + 1), σ.length + 3, ⟨fun _ => by simp only; omega, (fun h => by cases h), ?_, by simp only [List.length_append, List.length_singleton]; omega⟩, by simp only; omega, by simp, ⟨rfl, rfl, rfl, by rw [List.length_append]; rfl, rfl, rfl, rfl, rfl, trivial⟩, closed_own 3 hcl ?_, ?_, ?_⟩
      ·show BQ o i (some t) (outs (n.keys.take k) ++ outD (q.kids.take (j + 1))) (Tx ++ [dn]) (Sx.set dn true)
       rw [outD_take hd, hdt, ← List.append_assoc]; exact BQ_new hx3 hn hdo (by omega)
      ·rw [boolc_set, intc_drop]; simp [ownLt, AO.cells, AV.ltL, AV.lt]
      ·simp [ltE, AV.lt, AV.ltL]
      ·refine (take_own 3).trans ?_
       rw [boolc_set, intc_drop]; rfl
     ·(try rw [h5]); replace h5 := zcl h5
      refine AWp_skip ?_
      refine AWp_regL ?_
      refine zv3 ?_
      have hst : Sx[dn]? = some true := by cases sb <;> simp_all
      refine ⟨(j + 1, px, Tx, Sx, gx), σ.length + 3, ⟨fun _ => by simp only; omega, (fun h => by cases h), ?_, hx4⟩, by simp only; omega, by simp, ⟨rfl, rfl, rfl, rfl, rfl, rfl, rfl, rfl, trivial⟩, closed_own 3 hcl ?_, ?_, take_own 3⟩
      ·show BQ o i (some t) (outs (n.keys.take k) ++ outD (q.kids.take (j + 1))) Tx Sx
       rw [outD_take hd, hdt, ← List.append_assoc]; exact BQ_old hx3 hst
      ·simp [ownLt, AO.cells, AV.ltL, AV.lt]
      ·simp [ltE, AV.lt, AV.ltL]
    ·(try rw [h4]); replace h4 := zcl h4
     refine AWp_exit ?_
     refine AWp_regL ?_
     refine zv3 ?_
     have hD : outs (n.keys.take (k + 1)) = outs (n.keys.take k) ++ (if plc q.name = true then outD (q.kids.take j) else []) := by
      rw [outs_take hq, outK]
      by_cases hp : plc q.name = true
      ·rw [hp] at h4; cases h4
      ·rw [if_neg hp, if_neg hp]
     refine ⟨(k + 1, px, Tx, Sx, gx), σ.length + 3, ⟨by simp only; omega, by rw [hD]; exact hx3, hx4⟩, by simp only; omega, by simp, ⟨rfl, rfl, rfl, rfl, rfl, rfl, trivial⟩, closed_own 3 hcl ?_, ?_, take_own 3⟩
     ·simp [ownLt, AO.cells, AV.ltL, AV.lt]
     ·simp [ltE, AV.lt, AV.ltL]
   ·rw [h3]; replace h3 := zcl h3
    refine zv2 ?_
    refine AWp_condF rfl ?_
    refine AWp_exit ?_
    refine AWp_regL ?_
    refine zv3 ?_
    have hD : outs (n.keys.take (k + 1)) = outs (n.keys.take k) ++ (if plc q.name = true then outD (q.kids.take j) else []) := by
     rw [outs_take hq, outK]
     by_cases hp : plc q.name = true
     ·rw [if_pos hp, if_pos hp, List.take_of_length_le (l := q.kids) (i := j) (by omega)]
     ·rw [if_neg hp, if_neg hp]
    refine ⟨(k + 1, px, Tx, Sx, gx), σ.length + 3, ⟨by simp only; omega, by rw [hD]; exact hx3, hx4⟩, by simp only; omega, by simp, ⟨rfl, rfl, rfl, rfl, rfl, rfl, trivial⟩, closed_own 3 hcl ?_, ?_, take_own 3⟩
    ·simp [ownLt, AO.cells, AV.ltL, AV.lt]
    ·simp [ltE, AV.lt, AV.ltL]
  ·(try rw [h2]); replace h2 := zcl h2
   refine AWp_exit ?_
   refine ⟨(pq, Tq, Sq, gq), σ.length + 2, ⟨BQ_done hy2 hn (by rw [List.take_of_length_le (by omega)]), by simp only [List.length_cons] at hzc ⊢; omega⟩, by simp only [List.length_cons]; omega, by simp, ⟨rfl, rfl, rfl, rfl, trivial⟩, closed_own 2 hcl ?_, ?_, take_own 2⟩
   ·simp [ownLt, AO.cells, AV.ltL, AV.lt]
   ·simp [ltE, AV.lt, AV.ltL]
 ·(try rw [h1]); replace h1 := zcl h1
  have hT0 : T0 = [] := by cases T0 with | nil => rfl | cons t r => simp at h1; omega
  subst hT0
  refine AWp_exit ?_
  refine zw2 ?_
  have hS := BQ_end hz
  refine AWp_freezeAO 4 0 0 1 o.length (boolr S) rfl (by rw [boolr_flat]; rfl) (boolr_el _) (by rw [boolr_len]; exact hz.len) (by decide) ?_ (by decide)
  refine zrt ?_
  rw [← hS]
  exact ResQ_1 rfl hcl (by simp [AV.lt]) (Ret_of rfl)
end Lg
set_option maxRecDepth 20000
set_option maxHeartbeats 4000000
namespace Lg
open Go Go.Proofs Go.RowKit
variable [GLay] 
theorem rlink_c (f : Bool) (l : List JNode) (es : List (List AV)) (σ : List AO) (he : es = noder l) (hok : NOK l) : ACalls Tryz.prog 71 [.sl f 4 es] σ (Ret (.tup [.sl false 4 (noder (jlink l).1), .int .i64 (jlink l).2.1, .str (jlink l).2.2]) σ) := by
 refine ACalls_body Tryz.func71 rfl Tryz.ntmps71 (res3 Tryz.results71) (Nat.le_of_ble_eq_true rfl) (fun hcl hal => ?_)
 subst he
 have hnl := noder_len l
 have hll := hok.le
 refine zw3 ?_
 refine zw1 ?_
 refine AWp_seq ?_
 refine zw1 ?_
 refine AWp_block ?_
 -- loop 0 LIVE 0:param 2:assign 3:assign 4:assign 5:assign 6:assign
 refine AWp_ghostT 5 4 rfl ?_ (by decide)
 refine AWp_loop (ι := Nat × List JNode) (fun z => z.1 ≤ l.length ∧ lkn l (l.drop z.1) z.2 = lkn l l [] ∧ z.2.length = z.1) (fun z => ⟨[], [(0, .sl f 4 (noder l)), (5, .arr (σ.length + 0) z.2.length 4 0 z.2.length), (6, .int .i64 (z.1 : Int))]⟩) (fun z => σ ++ [.arr 4 z.2.length (noder z.2).flatten]) (fun z => l.length - z.1) ((0, [])) (⟨Nat.zero_le _, by rw [List.drop_zero], rfl⟩) ?_ rfl (fun z hz => ?_)
 ·exact ⟨rfl, rfl, rfl, rfl, trivial⟩
 obtain ⟨i, o⟩ := z
 obtain ⟨hi1, hi2, hi3⟩ := hz
 simp only at hi1 hi2 hi3 ⊢
 refine AWp_seq ?_
 refine zw4 ?_
 refine AWp_cond rfl (fun h1 => ?_) (fun h1 => ?_)
 ·(try rw [h1]); replace h1 := zcl h1
  obtain ⟨n, hn⟩ : ∃ n, l[i]? = some n := ⟨_, List.getElem?_eq_getElem (show i < l.length by omega)⟩
  have hnm := List.mem_of_getElem? hn
  have hkz := hok.kz n hnm
  have hk1 := hkz.1
  have hyl := keyr_len n.keys
  have hps := hok.sz n hnm
  rw [drop_consN hn] at hi2
  refine AWp_skip ?_
  refine AWp_seq ?_
  refine AWp_block ?_
  refine zu2 ?_
  refine zt rfl (op_indexAddr rfl Tryz.underlying31 Tryz.sizeOf47 rfl rfl (by omega) (noder_get hn)) ?_
  refine zv3 ?_
  refine zw1 ?_
  refine AWp_seq ?_
  refine zw1 ?_
  refine AWp_block ?_
  -- loop 1 LIVE 0:param 2:assign 3:assign 4:assign 5:assign 6:assign 7:alloc 8:assign 9:assign
  refine AWp_ghostTO 8 10 2 rfl rfl ?_ (by decide)
  refine AWp_loop (ι := Nat × List JKey) (fun y => y.1 ≤ n.keys.length ∧ lkk l (n.keys.drop y.1) y.2 = lkk l n.keys [] ∧ y.2.length = y.1) (fun y => ⟨[], [(0, .sl f 4 (noder l)), (5, .arr (σ.length + 0) o.length 4 0 o.length), (6, .int .i64 (i : Int)), (7, .ptr (σ.length + 1) 0), (8, .arr (σ.length + 2) y.2.length 10 0 y.2.length), (9, .int .i64 (y.1 : Int))]⟩) (fun y => σ ++ [.arr 4 o.length (noder o).flatten, .box [.str n.path, .bool n.all, .bool n.pass, .sl false 10 (keyr n.keys)], .arr 10 y.2.length (keyr y.2).flatten]) (fun y => n.keys.length - y.1) ((0, [])) (⟨Nat.zero_le _, by rw [List.drop_zero], rfl⟩) ?_ rfl (fun y hy => ?_)
  ·exact ⟨rfl, rfl, rfl, rfl, rfl, rfl, rfl, trivial⟩
  obtain ⟨k, ks⟩ := y
  obtain ⟨hk2, hk3, hk4⟩ := hy
  simp only at hk2 hk3 hk4 ⊢
  refine AWp_seq ?_
  refine zw5 ?_
  refine AWp_cond rfl (fun h2 => ?_) (fun h2 => ?_)
  ·(try rw [h2]); replace h2 := zcl h2
   obtain ⟨q, hq⟩ : ∃ q, n.keys[k]? = some q := ⟨_, List.getElem?_eq_getElem (show k < n.keys.length by omega)⟩
   have hqz := hkz.2 q (List.mem_of_getElem? hq)
   rw [drop_consN hq] at hk3
   refine AWp_skip ?_
   refine AWp_seq ?_
   refine AWp_block ?_
   refine zu3 ?_
   refine zt rfl (op_indexAddr rfl Tryz.underlying45 Tryz.sizeOf55 rfl rfl (by omega) (keyr_get hq)) ?_
   rw [keyc_eq]
   refine zv3 ?_
   refine AWp_join (ι := JKey) (fun q2 => lk1 l q = some q2) (fun q2 => ⟨[], [(0, .sl f 4 (noder l)), (5, .arr (σ.length + 0) o.length 4 0 o.length), (6, .int .i64 (i : Int)), (7, .ptr (σ.length + 1) 0), (8, .arr (σ.length + 2) ks.length 10 0 ks.length), (9, .int .i64 (k : Int)), (10, .ptr (σ.length + 3) 0)]⟩) (fun q2 => σ ++ [.arr 4 o.length (noder o).flatten, .box [.str n.path, .bool n.all, .bool n.pass, .sl false 10 (keyr n.keys)], .arr 10 ks.length (keyr ks).flatten, .box [.str q2.name, .int .i64 q2.v.kind, .bool q2.v.b, .bool q2.v.n.neg, .str q2.v.n.digits, .int .i64 q2.v.n.exp, .str q2.v.s, .sl false 8 (lcells q2.v.l), .sl false 9 (mcells q2.v.m), .sl false 2 (kidr q2.kids)]]) ?_ (fun q2 hj => ?_)
   ·skip
    refine zw3 ?_
    refine AWp_cond rfl (fun h3 => ?_) (fun h3 => ?_)
    ·(try rw [h3]); replace h3 := zcl h3
     refine zw1 ?_
     refine AWp_seq ?_
     refine zw1 ?_
     refine AWp_block ?_
     -- loop 2 LIVE 0:param 2:assign 3:assign 4:assign 5:assign 6:assign 7:alloc 8:assign 9:assign 10:alloc 11:assign 12:assign
     refine AWp_loop (ι := Nat) (fun j => j ≤ l.length) (fun j => ⟨[], [(0, .sl f 4 (noder l)), (5, .arr (σ.length + 0) o.length 4 0 o.length), (6, .int .i64 (i : Int)), (7, .ptr (σ.length + 1) 0), (8, .arr (σ.length + 2) ks.length 10 0 ks.length), (9, .int .i64 (k : Int)), (10, .ptr (σ.length + 3) 0), (11, .int .i64 (tgtI q.v.s (l.take j))), (12, .int .i64 (j : Int))]⟩) (fun j => σ ++ [.arr 4 o.length (noder o).flatten, .box [.str n.path, .bool n.all, .bool n.pass, .sl false 10 (keyr n.keys)], .arr 10 ks.length (keyr ks).flatten, .box [.str q.name, .int .i64 q.v.kind, .bool q.v.b, .bool q.v.n.neg, .str q.v.n.digits, .int .i64 q.v.n.exp, .str q.v.s, .sl false 8 (lcells q.v.l), .sl false 9 (mcells q.v.m), .sl false 2 (kidr q.kids)]]) (fun j => l.length - j) (0) (Nat.zero_le _) ?_ rfl (fun j hj => ?_)
     ·exact ⟨rfl, rfl, rfl, rfl, rfl, rfl, rfl, rfl, rfl, rfl, trivial⟩
     refine AWp_seq ?_
     refine zw4 ?_
     refine AWp_cond rfl (fun h4 => ?_) (fun h4 => ?_)
     ·(try rw [h4]); replace h4 := zcl h4
      obtain ⟨x, hx⟩ : ∃ x, l[j]? = some x := ⟨_, List.getElem?_eq_getElem (show j < l.length by omega)⟩
      have hxs := hok.sz x (List.mem_of_getElem? hx)
      refine AWp_skip ?_
      refine AWp_seq ?_
      refine AWp_block ?_
      refine AWp_seq ?_
      refine AWp_drawL #[0, 1, 3, 0, 0, 24, 56, 120, 248, 511] Tryz.mixed (by decide +kernel) (by decide +kernel) ?_
      refine zd2 ?_
      refine zp1 ?_
      refine zd2 ?_
      refine yA rfl rfl (fun _ => op_indexAddr rfl Tryz.underlying31 Tryz.sizeOf47 rfl rfl (by omega) (noder_get hx)) ?_
      refine zd1 ?_
      refine zp1 ?_
      refine yA rfl rfl (fun _ => op_cat rfl rfl rfl (by show 1 + x.path.size ≤ _; omega)) ?_
      refine zd1 ?_
      refine RP.nil rfl ?_
      refine AWp_cond rfl (fun h5 => ?_) (fun h5 => ?_)
      ·(try rw [h5]); replace h5 := zcl h5
       refine AWp_regL ?_
       refine zv2 ?_
       refine AWp_regL ?_
       refine zv3 ?_
       refine ⟨j + 1, σ.length + 4, by omega, by omega, by simp, ⟨rfl, rfl, rfl, rfl, rfl, rfl, rfl, rfl, by rw [tgtI_take_y hok.nd hx h5]; rfl, rfl, trivial⟩, closed_own 4 hcl ?_, ?_, take_own 4⟩
       ·simp [ownLt, AO.cells, AV.ltL, AV.lt, ltL_append]
       ·simp [ltE, AV.lt, AV.ltL]
      ·(try rw [h5]); replace h5 := zcl h5
       refine AWp_skip ?_
       refine AWp_regL ?_
       refine zv3 ?_
       refine ⟨j + 1, σ.length + 4, by omega, by omega, by simp, ⟨rfl, rfl, rfl, rfl, rfl, rfl, rfl, rfl, by rw [tgtI_take_n hx h5]; rfl, rfl, trivial⟩, closed_own 4 hcl ?_, ?_, take_own 4⟩
       ·simp [ownLt, AO.cells, AV.ltL, AV.lt, ltL_append]
       ·simp [ltE, AV.lt, AV.ltL]
     ·(try rw [h4]); replace h4 := zcl h4
      have hjl : l.take j = l := List.take_of_length_le (by omega)
      rw [hjl]
      have htl := tgtI_lt q.v.s l
      refine AWp_exit ?_
      refine AWp_seq ?_
      refine zw2 ?_
      refine AWp_cond rfl (fun h6 => ?_) (fun h6 => ?_)
      ·(try rw [h6]); replace h6 := zcl h6
       refine AWp_seq ?_
       refine AWp_drawL #[0, 1, 0, 4, 15, 12, 44, 127] Tryz.mixed (by decide +kernel) (by decide +kernel) ?_
       refine zd1 ?_
       refine zp1 ?_
       refine yA rfl rfl (fun _ => op_buildSlice [[_]] rfl Tryz.underlying48 Tryz.sizeOf9 Tryz.zeroValue9 rfl (by decide) (by decide) rfl rfl rfl rfl rfl) ?_
       refine yP rfl rfl (zc rfl (rpath1_c cREF _ (by decide))) (trivial) ?_
       rw [pth_ref]
       refine yA rfl rfl (fun _ => op_cat rfl rfl rfl (by show n.path.size + 5 ≤ _; omega)) ?_
       refine zd3 ?_
       refine RP.nil rfl ?_
       refine AWp_slotLe 2 rfl (AVle.nils false 4) ?_ (by decide)
       refine zrt ?_
       rw [jlink_r (hi2.symm.trans (lkn_bad (hk3.symm.trans (lkk_bad (lk1_bad h3 h6)))))]
       exact ResQ_3 rfl rfl rfl hcl (by simp [AV.lt, AV.ltL, AV.ltLL]) ⟨rfl, rfl⟩
      ·(try rw [h6]); replace h6 := zcl h6
       refine AWp_skip ?_
       refine AWp_regL ?_
       refine zg2 ?_
       refine zt rfl (AOp.resLe (op_buildSlice [[_, _]] rfl Tryz.underlying53 Tryz.sizeOf57 Tryz.zeroValue57 rfl (by decide) (by decide) rfl rfl rfl rfl rfl) (AVle.full _ _)) ?_
       refine zv2 ?_
       exact ⟨⟨q.name, q.v, [⟨e0, tgtI q.v.s l⟩]⟩, lk1_ref h3 (by omega), ⟨rfl, rfl, rfl, rfl, rfl, rfl, rfl, rfl, trivial⟩, rfl⟩
    ·(try rw [h3]); replace h3 := zcl h3
     refine AWp_skip ?_
     exact ⟨q, lk1_no h3, ⟨rfl, rfl, rfl, rfl, rfl, rfl, rfl, rfl, trivial⟩, rfl⟩
   ·skip
    refine AWp_regL ?_
    refine zg2 ?_
    refine zt rfl (op_buildSlice [[_, _, _, _, _, _, _, _, _, _]] rfl Tryz.underlying45 Tryz.sizeOf55 Tryz.zeroValue55 rfl (by decide) (by decide) rfl rfl rfl rfl rfl) ?_
    refine zt rfl (op_appendArrT rfl 2 (sz := 10) (m := 1) (len := ks.length) (cs := _) rfl (.inr ⟨_, rfl⟩) Tryz.underlying45 Tryz.underlying45 Tryz.type55 rfl rfl rfl (by decide) rfl rfl (yflat_len ks).symm rfl rfl rfl (by show (ks.length + 1) * 152 ≤ _; omega) (by omega) rfl) ?_
    refine zv1 ?_
    refine AWp_regL ?_
    refine zv3 ?_
    refine ⟨(k + 1, ks ++ [q2]), σ.length + 3, ⟨by simp only; omega, by rw [← hk3, lkk_go hj], by simp only [List.length_append, List.length_singleton]; omega⟩, by simp only; omega, by simp, ⟨rfl, rfl, rfl, rfl, rfl, by rw [List.length_append]; rfl, rfl, trivial⟩, closed_own 3 hcl ?_, ?_, ?_⟩
    ·simp [ownLt, AO.cells, AV.ltL, AV.lt, ltL_append]
    ·simp [ltE, AV.lt, AV.ltL]
    ·refine (take_own 3).trans ?_
     rw [keyr_snoc, keyc_eq, List.length_append]; rfl
  ·(try rw [h2]); replace h2 := zcl h2
   have hks : lkk l n.keys [] = some ks := by rw [← hk3, List.drop_eq_nil_of_le (by omega)]; rfl
   refine AWp_exit ?_
   refine AWp_seq ?_
   refine AWp_freezeAO 8 2 ks.length 10 ks.length (keyr ks) rfl rfl (keyr_el _) (keyr_len _) (by decide) ?_ (by decide)
   refine AWp_regL ?_
   refine zg2 ?_
   refine ztN rfl rfl (op_storeO (r := [.str n.path, .bool n.all, .bool n.pass, .sl false 10 (keyr ks)]) rfl Tryz.sizeOf45 rfl rfl rfl rfl rfl (by decide)) ?_
   refine zon ?_
   refine AWp_regL ?_
   refine zg2 ?_
   refine zt rfl (op_buildSlice [[_, _, _, _]] rfl Tryz.underlying31 Tryz.sizeOf47 Tryz.zeroValue47 rfl (by decide) (by decide) rfl rfl rfl rfl rfl) ?_
   refine zt rfl (op_appendArrT rfl 0 (sz := 4) (m := 1) (len := o.length) (cs := _) rfl (.inr ⟨_, rfl⟩) Tryz.underlying31 Tryz.underlying31 Tryz.type47 rfl rfl rfl (by decide) rfl rfl (nflat_len o).symm rfl rfl rfl (by show (o.length + 1) * 48 ≤ _; omega) (by omega) rfl) ?_
   refine zv1 ?_
   refine AWp_regL ?_
   refine zv3 ?_
   refine ⟨(i + 1, o ++ [⟨n.path, n.all, n.pass, ks⟩]), σ.length + 1, ⟨by simp only; omega, by rw [← hi2, lkn_go hks], by simp only [List.length_append, List.length_singleton]; omega⟩, by simp only; omega, by simp, ⟨rfl, rfl, by rw [List.length_append]; rfl, rfl, trivial⟩, closed_own 1 hcl ?_, ?_, ?_⟩
   ·simp [ownLt, AO.cells, AV.ltL, AV.lt, ltL_append]
   ·simp [ltE, AV.lt, AV.ltL]
   ·refine (take_own 1).trans ?_
    rw [noder_snoc, List.length_append]; rfl
 ·(try rw [h1]); replace h1 := zcl h1
  refine AWp_exit ?_
  refine AWp_seq ?_
  refine zw1 ?_
  refine AWp_block ?_
  -- loop 3 LIVE 2:assign 3:assign 4:assign 5:assign 13:assign
  have ho : lkn l l [] = (o, 0, e0) := by rw [← hi2, List.drop_eq_nil_of_le (by omega)]; rfl
  obtain ⟨hok2, hol⟩ := lkn_LOK hok ho
  have honl := noder_len o
  refine AWp_freezeAO 5 0 o.length 4 o.length (noder o) rfl rfl (noder_el _) (noder_len _) (by decide) ?_ (by decide)
  refine AWp_loop (ι := Nat) (fun c => c ≤ o.length ∧ lkc o (o.drop c) c = lkc o o 0) (fun c => ⟨[], [(5, .sl false 4 (noder o)), (13, .int .i64 (c : Int))]⟩) (fun c => σ ++ [.dead]) (fun c => o.length - c) (0) (⟨Nat.zero_le _, by rw [List.drop_zero]⟩) ?_ rfl (fun c hc => ?_)
  ·exact ⟨rfl, rfl, rfl, trivial⟩
  obtain ⟨hc1, hc2⟩ := hc
  refine AWp_seq ?_
  refine zw4 ?_
  refine AWp_cond rfl (fun h7 => ?_) (fun h7 => ?_)
  ·(try rw [h7]); replace h7 := zcl h7
   obtain ⟨n, hn⟩ : ∃ n, o[c]? = some n := ⟨_, List.getElem?_eq_getElem (show c < o.length by omega)⟩
   rw [drop_consN hn] at hc2
   refine AWp_skip ?_
   refine AWp_seq ?_
   refine AWp_block ?_
   refine zu2 ?_
   refine zt rfl (zc rfl (reach_c false o _ c _ rfl hok2 (by omega))) ?_
   refine zv1 ?_
   refine zu2 ?_
   refine zt rfl (op_indexAddr rfl Tryz.underlying182 Tryz.sizeOf4 rfl rfl (by omega) (reachL_get (by omega))) ?_
   refine zv1 ?_
   refine AWp_cond rfl (fun h8 => ?_) (fun h8 => ?_)
   ·(try rw [h8]); replace h8 := zcl h8
    refine AWp_seq ?_
    refine AWp_drawL #[0, 0, 3, 7, 15, 0, 32, 127] Tryz.mixed (by decide +kernel) (by decide +kernel) ?_
    refine zd2 ?_
    refine yA rfl rfl (fun _ => op_indexAddr rfl Tryz.underlying31 Tryz.sizeOf47 rfl rfl (by omega) (noder_get hn)) ?_
    refine zd1 ?_
    refine zp1 ?_
    refine zd3 ?_
    refine RP.nil rfl ?_
    refine AWp_slotLe 2 rfl (AVle.nils false 4) ?_ (by decide)
    refine zrt ?_
    rw [jlink_c ho (hc2.symm.trans (lkc_y h8))]
    exact ResQ_3 rfl rfl rfl hcl (by simp [AV.lt, AV.ltL, AV.ltLL]) ⟨rfl, rfl⟩
   ·(try rw [h8]); replace h8 := zcl h8
    refine AWp_skip ?_
    refine AWp_regL ?_
    refine zv3 ?_
    refine ⟨c + 1, σ.length + 1, ⟨by omega, by rw [← hc2, lkc_n h8]⟩, by omega, by simp, ⟨rfl, rfl, rfl, trivial⟩, closed_own 1 hcl ?_, ?_, take_own 1⟩
    ·simp [ownLt, AO.cells, AV.ltL, AV.lt]
    ·simp [ltE, AV.lt, AV.ltL]
  ·(try rw [h7]); replace h7 := zcl h7
   refine AWp_exit ?_
   refine zw4 ?_
   refine zrt ?_
   rw [jlink_y ho (by rw [← hc2, List.drop_eq_nil_of_le (by omega)]; rfl)]
   exact ResQ_3 rfl rfl rfl hcl (by simp [AV.lt, AV.ltL]) ⟨rfl, rfl⟩
end Lg
set_option maxRecDepth 20000
set_option maxHeartbeats 4000000
namespace Lg
open Go Go.Proofs Go.RowKit
variable [GLay] 
theorem peek_c (s : ByteArray) (at0 deep bad spot : Int) (p : Nat) (σ : List AO) (hσ : σ[p]? = some (.box [.str s, .int .i64 at0, .int .i64 deep, .int .i64 bad, .int .i64 spot])) (h0 : 0 ≤ at0) : ACalls Tryz.prog 57 [.ptr p 0] σ (Ret (.int .i64 (pkv s at0 bad)) σ) := by
 refine ACalls_body Tryz.func57 rfl Tryz.ntmps57 (res1 Tryz.results57) (Nat.le_of_ble_eq_true rfl) (fun hcl hal => ?_)
 have hbl := bat_lt s at0.toNat
 refine zw1 ?_
 refine AWp_seq ?_
 refine AWp_seq ?_
 refine AWp_drawL #[0, 1, 3, 7, 15, 31, 63, 127, 255, 511, 63, 1087, 3135, 7231, 15423, 32767, 65535] Tryz.mixed (by decide +kernel) (by decide +kernel) ?_
 refine zd3 ?_
 refine zp1 ?_
 refine zd2 ?_
 refine zspr 8 rfl (fun h1 => ?_) fun h1 => ?_
 ·rw [h1]; replace h1 := zcl h1
  refine zd10 ?_
  refine zd1 ?_
  refine RP.nil rfl ?_
  refine AWp_condT rfl ?_
  refine zw1 ?_
  refine zrt ?_
  refine ResQ_10 rfl hcl trivial (Ret_of ?_)
  congr 1; unfold pkv; first | (rw [if_pos (by omega)]; done) | (rw [if_neg (by omega)]; done)
 ·rw [h1]; replace h1 := zcl h1
  refine zd3 ?_
  refine zp1 ?_
  refine zd3 ?_
  refine zp1 ?_
  refine zd3 ?_
  refine RP.nil rfl ?_
  refine AWp_cond rfl (fun h2 => ?_) (fun h2 => ?_)
  ·(try rw [h2]); replace h2 := zcl h2
   refine zw1 ?_
   refine zrt ?_
   refine ResQ_10 rfl hcl trivial (Ret_of ?_)
   congr 1; unfold pkv; first | (rw [if_pos (by omega)]; done) | (rw [if_neg (by omega)]; done)
  ·(try rw [h2]); replace h2 := zcl h2
   refine AWp_skip ?_
   refine AWp_seq ?_
   refine AWp_drawL #[0, 1, 3, 7, 0, 16, 48, 112, 255, 511, 1023] Tryz.mixed (by decide +kernel) (by decide +kernel) ?_
   refine zd3 ?_
   refine zp1 ?_
   refine zd3 ?_
   refine zp1 ?_
   refine zd3 ?_
   refine RP.nil rfl ?_
   refine zrt ?_
   refine ResQ_10 rfl hcl trivial (Ret_of ?_)
   congr 1; unfold pkv; first | (rw [if_pos (by omega)]; done) | (rw [if_neg (by omega)]; done)
end Lg
set_option maxRecDepth 20000
set_option maxHeartbeats 4000000
namespace Lg
open Go Go.Proofs Go.RowKit
variable [GLay] 
theorem fail_c (s : ByteArray) (at0 deep bad spot : Int) (p : Nat) (σ : List AO) (hσ : σ[p]? = some (.box [.str s, .int .i64 at0, .int .i64 deep, .int .i64 bad, .int .i64 spot])) (a b : Int) : ACalls Tryz.prog 35 [.ptr p 0, .int .i64 a, .int .i64 b] σ (Ret (.tup []) (σ.set p (.box [.str s, .int .i64 at0, .int .i64 deep, .int .i64 (if bad = 0 then b else bad), .int .i64 (if bad = 0 then a else spot)]))) := by
 have hp : p < σ.length := (List.getElem?_eq_some_iff.1 hσ).1
 refine ACalls_body Tryz.func35 rfl Tryz.ntmps35 (res0 Tryz.results35) (Nat.le_of_ble_eq_true rfl) (fun hcl hal => ?_)
 refine AWp_heap (set_same hσ) ?_
 refine zw5 ?_
 refine AWp_cond rfl (fun h1 => ?_) (fun h1 => ?_)
 ·(try rw [h1]); replace h1 := zcl h1
  refine zw5 ?_
  refine AWp_regL ?_
  refine zv5 ?_
  (try simp only [blockQ, thenQ])
  rw [if_pos h1, if_pos h1]
  exact ResQ_N0 (x := .box [.str s, .int .i64 at0, .int .i64 deep, .int .i64 b, .int .i64 a]) hcl (by simp [AO.cells, AV.ltL, AV.lt]) ⟨rfl, rfl⟩
 ·(try rw [h1]); replace h1 := zcl h1
  refine AWp_skip ?_
  (try simp only [blockQ, thenQ])
  rw [if_neg h1, if_neg h1]
  exact ResQ_N0 hcl (by simp [AO.cells, AV.ltL, AV.lt]) ⟨rfl, rfl⟩
end Lg
set_option maxRecDepth 20000
set_option maxHeartbeats 4000000
namespace Lg
open Go Go.Proofs Go.RowKit
variable [GLay] 
theorem blank_c (s : ByteArray) (a : Nat) (deep bad spot : Int) (p : Nat) (σ : List AO) (hσ : σ[p]? = some (.box [.str s, .int .i64 (a : Int), .int .i64 deep, .int .i64 bad, .int .i64 spot])) (hs : s.size ≤ 1000000) (ha : a ≤ 1000000) : ACalls Tryz.prog 56 [.ptr p 0] σ (Ret (.tup []) (σ.set p (.box [.str s, .int .i64 ((if bad = 0 then blk s a else a : Nat) : Int), .int .i64 deep, .int .i64 bad, .int .i64 spot]))) := by
 have hp : p < σ.length := (List.getElem?_eq_some_iff.1 hσ).1
 refine ACalls_body Tryz.func56 rfl Tryz.ntmps56 (res0 Tryz.results56) (Nat.le_of_ble_eq_true rfl) (fun hcl hal => ?_)
 refine AWp_heap (set_same hσ) ?_
 refine AWp_block ?_
 -- loop 0 LIVE 0:param
 refine AWp_loop (ι := Nat) (fun i => (bad = 0 → blk s i = blk s a) ∧ (bad ≠ 0 → i = a) ∧ i ≤ 1000000) (fun i => ⟨[], [(0, .ptr p 0)]⟩) (fun i => σ.set p (.box [.str s, .int .i64 (i : Int), .int .i64 deep, .int .i64 bad, .int .i64 spot])) (fun i => s.size - i) (a) (⟨fun _ => rfl, fun _ => rfl, ha⟩) ?_ rfl (fun i hi => ?_)
 ·exact ⟨rfl, rfl, trivial⟩
 obtain ⟨hi1, hi2, hi3⟩ := hi
 refine AWp_seq ?_
 refine zu1 ?_
 refine zt rfl (zc rfl (peek_c s (i : Int) deep bad spot p _ (get_set hp) (by omega))) ?_
 refine zg2 ?_
 refine zsp 5 rfl (fun h1 => ?_) fun h1 => ?_
 ·rw [h1]; replace h1 := zcl h1
  refine zg10 ?_
  refine zg4 ?_
  refine zon ?_
  refine AWp_condT rfl ?_
  refine AWp_skip ?_
  refine AWp_block ?_
  refine AWp_regL ?_
  refine zv8 ?_
  have hk := pk_yes (s := s) (a := i) (bad := bad) (by omega)
  have hbl : isbl (bat s i) := by simp only [isbl]; omega
  refine ⟨i + 1, σ.length, ⟨fun h => by rw [← blk_yes hk.2.1 hbl]; exact hi1 h, fun h => absurd hk.1 h, by omega⟩, by omega, by simp, ⟨rfl, rfl, trivial⟩, closed_set (x := .box [.str s, .int .i64 ((i : Int) + 1), .int .i64 deep, .int .i64 bad, .int .i64 spot]) hcl (by simp [AO.cells, AV.ltL, AV.lt]), ?_, take_set ?_⟩
  ·simp [ltE, AV.lt]; omega
  ·rw [Int.natCast_add]; rfl
 ·rw [h1]; replace h1 := zcl h1
  refine zg1 ?_
  refine ztG rfl rfl (zc rfl (peek_c s (i : Int) deep bad spot p _ (get_set hp) (by omega))) ?_
  refine zg3 ?_
  refine zsp 10 rfl (fun h2 => ?_) fun h2 => ?_
  ·rw [h2]; replace h2 := zcl h2
   refine zv9 ?_
   refine AWp_condT rfl ?_
   refine AWp_skip ?_
   refine AWp_block ?_
   refine AWp_regL ?_
   refine zv8 ?_
   have hk := pk_yes (s := s) (a := i) (bad := bad) (by omega)
   have hbl : isbl (bat s i) := by simp only [isbl]; omega
   refine ⟨i + 1, σ.length, ⟨fun h => by rw [← blk_yes hk.2.1 hbl]; exact hi1 h, fun h => absurd hk.1 h, by omega⟩, by omega, by simp, ⟨rfl, rfl, trivial⟩, closed_set (x := .box [.str s, .int .i64 ((i : Int) + 1), .int .i64 deep, .int .i64 bad, .int .i64 spot]) hcl (by simp [AO.cells, AV.ltL, AV.lt]), ?_, take_set ?_⟩
   ·simp [ltE, AV.lt]; omega
   ·rw [Int.natCast_add]; rfl
  ·rw [h2]; replace h2 := zcl h2
   refine zg1 ?_
   refine ztG rfl rfl (zc rfl (peek_c s (i : Int) deep bad spot p _ (get_set hp) (by omega))) ?_
   refine zg3 ?_
   refine zsp 15 rfl (fun h3 => ?_) fun h3 => ?_
   ·rw [h3]; replace h3 := zcl h3
    refine zv4 ?_
    refine AWp_condT rfl ?_
    refine AWp_skip ?_
    refine AWp_block ?_
    refine AWp_regL ?_
    refine zv8 ?_
    have hk := pk_yes (s := s) (a := i) (bad := bad) (by omega)
    have hbl : isbl (bat s i) := by simp only [isbl]; omega
    refine ⟨i + 1, σ.length, ⟨fun h => by rw [← blk_yes hk.2.1 hbl]; exact hi1 h, fun h => absurd hk.1 h, by omega⟩, by omega, by simp, ⟨rfl, rfl, trivial⟩, closed_set (x := .box [.str s, .int .i64 ((i : Int) + 1), .int .i64 deep, .int .i64 bad, .int .i64 spot]) hcl (by simp [AO.cells, AV.ltL, AV.lt]), ?_, take_set ?_⟩
    ·simp [ltE, AV.lt]; omega
    ·rw [Int.natCast_add]; rfl
   ·rw [h3]; replace h3 := zcl h3
    refine zg1 ?_
    refine ztG rfl rfl (zc rfl (peek_c s (i : Int) deep bad spot p _ (get_set hp) (by omega))) ?_
    refine zv2 ?_
    refine AWp_cond rfl (fun h4 => ?_) (fun h4 => ?_)
    ·(try rw [h4]); replace h4 := zcl h4
     refine AWp_skip ?_
     refine AWp_block ?_
     refine AWp_regL ?_
     refine zv8 ?_
     have hk := pk_yes (s := s) (a := i) (bad := bad) (by omega)
     have hbl : isbl (bat s i) := by simp only [isbl]; omega
     refine ⟨i + 1, σ.length, ⟨fun h => by rw [← blk_yes hk.2.1 hbl]; exact hi1 h, fun h => absurd hk.1 h, by omega⟩, by omega, by simp, ⟨rfl, rfl, trivial⟩, closed_set (x := .box [.str s, .int .i64 ((i : Int) + 1), .int .i64 deep, .int .i64 bad, .int .i64 spot]) hcl (by simp [AO.cells, AV.ltL, AV.lt]), ?_, take_set ?_⟩
     ·simp [ltE, AV.lt]; omega
     ·rw [Int.natCast_add]; rfl
    ·(try rw [h4]); replace h4 := zcl h4
     refine AWp_exit ?_
     (try simp only [blockQ, thenQ])
     have hfin : i = (if bad = 0 then blk s a else a) := by
      by_cases hb : bad = 0
      ·rw [if_pos hb, ← hi1 hb, blk_no]; intro hx; have := pk_in (s := s) hb hx.1; have := hx.2; simp only [isbl] at this; omega
      ·rw [if_neg hb]; exact hi2 hb
     rw [← hfin]
     exact ResQ_N0 (x := .box [.str s, .int .i64 (i : Int), .int .i64 deep, .int .i64 bad, .int .i64 spot]) hcl (by simp [AO.cells, AV.ltL, AV.lt]) ⟨rfl, rfl⟩
end Lg
set_option maxRecDepth 20000
set_option maxHeartbeats 4000000
namespace Lg
open Go Go.Proofs Go.RowKit
variable [GLay] 
theorem open_c (s : ByteArray) (a : Nat) (deep bad spot : Int) (p : Nat) (σ : List AO) (hσ : σ[p]? = some (.box [.str s, .int .i64 (a : Int), .int .i64 deep, .int .i64 bad, .int .i64 spot])) (hs : s.size ≤ 1000000) (ha : a < 1000000) (hd : 0 ≤ deep) (hd2 : deep ≤ 1000000) : ACalls Tryz.prog 99 [.ptr p 0] σ (Ret (.tup []) (σ.set p (.box [.str s, .int .i64 ((if (if deep = 32 then (if bad = 0 then 3 else bad) else bad) = 0 then blk s (a + 1) else a + 1 : Nat) : Int), .int .i64 (deep + 1), .int .i64 (if deep = 32 then (if bad = 0 then 3 else bad) else bad), .int .i64 (if deep = 32 then (if bad = 0 then (a : Int) else spot) else spot)]))) := by
 have hp : p < σ.length := (List.getElem?_eq_some_iff.1 hσ).1
 refine ACalls_body Tryz.func99 rfl Tryz.ntmps99 (res0 Tryz.results99) (Nat.le_of_ble_eq_true rfl) (fun hcl hal => ?_)
 refine AWp_heap (set_same hσ) ?_
 refine AWp_seq ?_
 refine zw5 ?_
 refine AWp_cond rfl (fun h1 => ?_) (fun h1 => ?_)
 ·(try rw [h1]); replace h1 := zcl h1
  refine AWp_regL ?_
  refine zg5 ?_
  refine zt rfl (zc rfl (callS (fail_c s (a : Int) deep bad spot p _ (get_set hp) (a : Int) 3))) ?_
  refine zon ?_
  refine zw8 ?_
  refine zw8 ?_
  refine AWp_regL ?_
  refine zg1 ?_
  refine zt rfl (zc rfl (callS (blank_c s (a + 1) (deep + 1) _ _ p _ (get_set hp) hs (by omega)))) ?_
  refine zon ?_
  (try simp only [blockQ, thenQ])
  simp only [if_pos h1]
  exact ResQ_N0 hcl (by simp [AO.cells, AV.ltL, AV.lt]) ⟨rfl, rfl⟩
 ·(try rw [h1]); replace h1 := zcl h1
  refine AWp_skip ?_
  refine zw8 ?_
  refine zw8 ?_
  refine AWp_regL ?_
  refine zg1 ?_
  refine zt rfl (zc rfl (callS (blank_c s (a + 1) (deep + 1) _ _ p _ (get_set hp) hs (by omega)))) ?_
  refine zon ?_
  (try simp only [blockQ, thenQ])
  simp only [if_neg h1]
  exact ResQ_N0 hcl (by simp [AO.cells, AV.ltL, AV.lt]) ⟨rfl, rfl⟩
end Lg
set_option maxRecDepth 20000
set_option maxHeartbeats 4000000
namespace Lg
open Go Go.Proofs Go.RowKit
variable [GLay] 
end Lg
set_option maxRecDepth 20000
set_option maxHeartbeats 4000000
namespace Lg
open Go Go.Proofs Go.RowKit
variable [GLay] 
theorem hex_c (s : ByteArray) (a : Nat) (σ : List AO) (hs : s.size ≤ 1000000) (ha : a ≤ 2000000) : ACalls Tryz.prog 142 [.str s, .int .i64 (a : Int)] σ (Ret (.tup [.int .i64 (rhex s a).1, .int .i64 (rhex s a).2]) σ) := by
 refine ACalls_body Tryz.func142 rfl Tryz.ntmps142 (res2 Tryz.results142) (Nat.le_of_ble_eq_true rfl) (fun hcl hal => ?_)
 refine zw2 ?_
 refine zw1 ?_
 refine AWp_seq ?_
 refine zw2 ?_
 refine AWp_block ?_
 -- loop 0 LIVE 0:param 1:param 4:assign 5:assign 6:assign 7:assign
 refine AWp_loop (ι := Nat × Int) (fun q => hexF s q.1 (a + 4) q.2 = rhex s a ∧ a ≤ q.1 ∧ 0 ≤ q.2 ∧ ((q.1 = a ∧ q.2 = 0) ∨ (q.1 = a + 1 ∧ q.2 < 16) ∨ (q.1 = a + 2 ∧ q.2 < 256) ∨ (q.1 = a + 3 ∧ q.2 < 4096) ∨ (q.1 = a + 4 ∧ q.2 < 65536))) (fun q => ⟨[], [(0, .str s), (1, .int .i64 (a : Int)), (6, .int .i64 q.2), (7, .int .i64 (q.1 : Int))]⟩) (fun q => σ) (fun q => a + 4 - q.1) ((a, 0)) (⟨rfl, Nat.le_refl _, Int.le_refl _, .inl ⟨rfl, rfl⟩⟩) ?_ rfl (fun q hq => ?_)
 ·exact ⟨rfl, rfl, rfl, rfl, rfl, trivial⟩
 obtain ⟨i, v⟩ := q
 obtain ⟨hq1, hq2, hq3, hq4⟩ := hq
 simp only at hq1 hq2 hq3 hq4 ⊢
 have hbl := bat_lt s i
 refine AWp_seq ?_
 refine zw4 ?_
 refine AWp_cond rfl (fun h1 => ?_) (fun h1 => ?_)
 ·(try rw [h1]); (try simp only [decide_eq_true_eq, decide_eq_false_iff_not, Bool.not_eq_true', Bool.not_eq_false', Int.not_lt, Int.not_le, Bool.not_true, Bool.not_false, Int.toNat_natCast, tn1, tn2, tnn, bne_iff_ne, beq_iff_eq, beq_eq_false_iff_ne, ne_eq, Decidable.not_not] at h1)
  refine AWp_skip ?_
  refine AWp_seq ?_
  refine AWp_block ?_
  refine AWp_seq ?_
  refine zw4 ?_
  refine AWp_cond rfl (fun h2 => ?_) (fun h2 => ?_)
  ·(try rw [h2]); (try simp only [decide_eq_true_eq, decide_eq_false_iff_not, Bool.not_eq_true', Bool.not_eq_false', Int.not_lt, Int.not_le, Bool.not_true, Bool.not_false, Int.toNat_natCast, tn1, tn2, tnn, bne_iff_ne, beq_iff_eq, beq_eq_false_iff_ne, ne_eq, Decidable.not_not] at h2)
   refine zw3 ?_
   refine zrt ?_
   first | (have hE : rhex s a = (0, (i : Int)) := by rw [← hq1, hexF.eq_1 s i, if_pos (by omega)]; first | (rw [if_pos (by omega)]; done) | (rw [if_neg (by omega), if_pos (by omega)]; done)); rw [hE]; exact ResQ_20 rfl rfl hcl (by simp [AV.lt, AV.ltL]) (Ret_of rfl) | (have hE : rhex s a = (v, -1) := by rw [← hq1, hexF.eq_1 s i, if_neg (by omega)]); rw [hE]; exact ResQ_20 rfl rfl hcl (by simp [AV.lt, AV.ltL]) (Ret_of rfl)
  ·(try rw [h2]); (try simp only [decide_eq_true_eq, decide_eq_false_iff_not, Bool.not_eq_true', Bool.not_eq_false', Int.not_lt, Int.not_le, Bool.not_true, Bool.not_false, Int.toNat_natCast, tn1, tn2, tnn, bne_iff_ne, beq_iff_eq, beq_eq_false_iff_ne, ne_eq, Decidable.not_not] at h2)
   refine AWp_skip ?_
   refine zu3 ?_
   simp only [Int.toNat_natCast]
   refine zv2 ?_
   refine zw1 ?_
   refine AWp_join (ι := Unit) (fun b => True) (fun b => ⟨[], [(0, .str s), (1, .int .i64 (a : Int)), (6, .int .i64 v), (7, .int .i64 (i : Int)), (8, .int .i64 ((bat s i).toNat : Int)), (9, .int .i64 (hd1 (bat s i).toNat))]⟩) (fun b => σ) ?_ (fun b hj => ?_)
   ·skip
    refine zu3 ?_
    refine zsp 28 rfl (fun h3 => ?_) fun h3 => ?_
    ·rw [h3]; (try simp only [decide_eq_true_eq, decide_eq_false_iff_not, Bool.not_eq_true', Bool.not_eq_false', Int.not_lt, Int.not_le, Bool.not_true, Bool.not_false, Int.toNat_natCast, tn1, tn2, tnn, bne_iff_ne, beq_iff_eq, beq_eq_false_iff_ne, ne_eq, Decidable.not_not] at h3)
     refine zv3 ?_
     refine AWp_cond rfl (fun h4 => ?_) (fun h4 => ?_)
     ·(try rw [h4]); (try simp only [decide_eq_true_eq, decide_eq_false_iff_not, Bool.not_eq_true', Bool.not_eq_false', Int.not_lt, Int.not_le, Bool.not_true, Bool.not_false, Int.toNat_natCast, tn1, tn2, tnn, bne_iff_ne, beq_iff_eq, beq_eq_false_iff_ne, ne_eq, Decidable.not_not] at h4)
      refine AWp_regL ?_
      refine zv3 ?_
      refine ⟨(), trivial, ⟨rfl, rfl, rfl, rfl, rfl, rfl, ?_, trivial⟩, rfl⟩
      unfold hd1; first | (rw [if_pos (by omega)]; rfl) | (rw [if_neg (by omega)]; rfl)
     ·(try rw [h4]); (try simp only [decide_eq_true_eq, decide_eq_false_iff_not, Bool.not_eq_true', Bool.not_eq_false', Int.not_lt, Int.not_le, Bool.not_true, Bool.not_false, Int.toNat_natCast, tn1, tn2, tnn, bne_iff_ne, beq_iff_eq, beq_eq_false_iff_ne, ne_eq, Decidable.not_not] at h4)
      refine AWp_skip ?_
      refine ⟨(), trivial, ⟨rfl, rfl, rfl, rfl, rfl, rfl, ?_, trivial⟩, rfl⟩
      unfold hd1; first | (rw [if_pos (by omega)]; rfl) | (rw [if_neg (by omega)]; rfl)
    ·rw [h3]; (try simp only [decide_eq_true_eq, decide_eq_false_iff_not, Bool.not_eq_true', Bool.not_eq_false', Int.not_lt, Int.not_le, Bool.not_true, Bool.not_false, Int.toNat_natCast, tn1, tn2, tnn, bne_iff_ne, beq_iff_eq, beq_eq_false_iff_ne, ne_eq, Decidable.not_not] at h3)
     refine zv3 ?_
     refine AWp_condF rfl ?_
     refine AWp_skip ?_
     refine ⟨(), trivial, ⟨rfl, rfl, rfl, rfl, rfl, rfl, ?_, trivial⟩, rfl⟩
     unfold hd1; first | (rw [if_pos (by omega)]; rfl) | (rw [if_neg (by omega)]; rfl)
   ·skip
    refine AWp_join (ι := Unit) (fun b => True) (fun b => ⟨[], [(0, .str s), (1, .int .i64 (a : Int)), (6, .int .i64 v), (7, .int .i64 (i : Int)), (8, .int .i64 ((bat s i).toNat : Int)), (9, .int .i64 (hd2 (bat s i).toNat))]⟩) (fun b => σ) ?_ (fun b hj => ?_)
    ·skip
     refine zu3 ?_
     refine zsp 36 rfl (fun h5 => ?_) fun h5 => ?_
     ·rw [h5]; (try simp only [decide_eq_true_eq, decide_eq_false_iff_not, Bool.not_eq_true', Bool.not_eq_false', Int.not_lt, Int.not_le, Bool.not_true, Bool.not_false, Int.toNat_natCast, tn1, tn2, tnn, bne_iff_ne, beq_iff_eq, beq_eq_false_iff_ne, ne_eq, Decidable.not_not] at h5)
      refine zv3 ?_
      refine AWp_cond rfl (fun h6 => ?_) (fun h6 => ?_)
      ·(try rw [h6]); (try simp only [decide_eq_true_eq, decide_eq_false_iff_not, Bool.not_eq_true', Bool.not_eq_false', Int.not_lt, Int.not_le, Bool.not_true, Bool.not_false, Int.toNat_natCast, tn1, tn2, tnn, bne_iff_ne, beq_iff_eq, beq_eq_false_iff_ne, ne_eq, Decidable.not_not] at h6)
       refine AWp_regL ?_
       refine zv3 ?_
       refine ⟨(), trivial, ⟨rfl, rfl, rfl, rfl, rfl, rfl, ?_, trivial⟩, rfl⟩
       unfold hd2; first | (rw [if_pos (by omega)]; rfl) | (rw [if_neg (by omega)]; rfl)
      ·(try rw [h6]); (try simp only [decide_eq_true_eq, decide_eq_false_iff_not, Bool.not_eq_true', Bool.not_eq_false', Int.not_lt, Int.not_le, Bool.not_true, Bool.not_false, Int.toNat_natCast, tn1, tn2, tnn, bne_iff_ne, beq_iff_eq, beq_eq_false_iff_ne, ne_eq, Decidable.not_not] at h6)
       refine AWp_skip ?_
       refine ⟨(), trivial, ⟨rfl, rfl, rfl, rfl, rfl, rfl, ?_, trivial⟩, rfl⟩
       unfold hd2; first | (rw [if_pos (by omega)]; rfl) | (rw [if_neg (by omega)]; rfl)
     ·rw [h5]; (try simp only [decide_eq_true_eq, decide_eq_false_iff_not, Bool.not_eq_true', Bool.not_eq_false', Int.not_lt, Int.not_le, Bool.not_true, Bool.not_false, Int.toNat_natCast, tn1, tn2, tnn, bne_iff_ne, beq_iff_eq, beq_eq_false_iff_ne, ne_eq, Decidable.not_not] at h5)
      refine zv3 ?_
      refine AWp_condF rfl ?_
      refine AWp_skip ?_
      refine ⟨(), trivial, ⟨rfl, rfl, rfl, rfl, rfl, rfl, ?_, trivial⟩, rfl⟩
      unfold hd2; first | (rw [if_pos (by omega)]; rfl) | (rw [if_neg (by omega)]; rfl)
    ·skip
     refine AWp_join (ι := Unit) (fun b => True) (fun b => ⟨[], [(0, .str s), (1, .int .i64 (a : Int)), (6, .int .i64 v), (7, .int .i64 (i : Int)), (8, .int .i64 ((bat s i).toNat : Int)), (9, .int .i64 (hexd (bat s i).toNat))]⟩) (fun b => σ) ?_ (fun b hj => ?_)
     ·skip
      refine zu3 ?_
      refine zsp 44 rfl (fun h7 => ?_) fun h7 => ?_
      ·rw [h7]; (try simp only [decide_eq_true_eq, decide_eq_false_iff_not, Bool.not_eq_true', Bool.not_eq_false', Int.not_lt, Int.not_le, Bool.not_true, Bool.not_false, Int.toNat_natCast, tn1, tn2, tnn, bne_iff_ne, beq_iff_eq, beq_eq_false_iff_ne, ne_eq, Decidable.not_not] at h7)
       refine zv3 ?_
       refine AWp_cond rfl (fun h8 => ?_) (fun h8 => ?_)
       ·(try rw [h8]); (try simp only [decide_eq_true_eq, decide_eq_false_iff_not, Bool.not_eq_true', Bool.not_eq_false', Int.not_lt, Int.not_le, Bool.not_true, Bool.not_false, Int.toNat_natCast, tn1, tn2, tnn, bne_iff_ne, beq_iff_eq, beq_eq_false_iff_ne, ne_eq, Decidable.not_not] at h8)
        refine AWp_regL ?_
        refine zv3 ?_
        refine ⟨(), trivial, ⟨rfl, rfl, rfl, rfl, rfl, rfl, ?_, trivial⟩, rfl⟩
        unfold hexd; first | (rw [if_pos (by omega)]; rfl) | (rw [if_neg (by omega)]; rfl)
       ·(try rw [h8]); (try simp only [decide_eq_true_eq, decide_eq_false_iff_not, Bool.not_eq_true', Bool.not_eq_false', Int.not_lt, Int.not_le, Bool.not_true, Bool.not_false, Int.toNat_natCast, tn1, tn2, tnn, bne_iff_ne, beq_iff_eq, beq_eq_false_iff_ne, ne_eq, Decidable.not_not] at h8)
        refine AWp_skip ?_
        refine ⟨(), trivial, ⟨rfl, rfl, rfl, rfl, rfl, rfl, ?_, trivial⟩, rfl⟩
        unfold hexd; first | (rw [if_pos (by omega)]; rfl) | (rw [if_neg (by omega)]; rfl)
      ·rw [h7]; (try simp only [decide_eq_true_eq, decide_eq_false_iff_not, Bool.not_eq_true', Bool.not_eq_false', Int.not_lt, Int.not_le, Bool.not_true, Bool.not_false, Int.toNat_natCast, tn1, tn2, tnn, bne_iff_ne, beq_iff_eq, beq_eq_false_iff_ne, ne_eq, Decidable.not_not] at h7)
       refine zv3 ?_
       refine AWp_condF rfl ?_
       refine AWp_skip ?_
       refine ⟨(), trivial, ⟨rfl, rfl, rfl, rfl, rfl, rfl, ?_, trivial⟩, rfl⟩
       unfold hexd; first | (rw [if_pos (by omega)]; rfl) | (rw [if_neg (by omega)]; rfl)
     ·skip
      have hdd := hexd_lt (bat s i).toNat
      refine AWp_seq ?_
      refine zw2 ?_
      refine AWp_cond rfl (fun h9 => ?_) (fun h9 => ?_)
      ·(try rw [h9]); (try simp only [decide_eq_true_eq, decide_eq_false_iff_not, Bool.not_eq_true', Bool.not_eq_false', Int.not_lt, Int.not_le, Bool.not_true, Bool.not_false, Int.toNat_natCast, tn1, tn2, tnn, bne_iff_ne, beq_iff_eq, beq_eq_false_iff_ne, ne_eq, Decidable.not_not] at h9)
       refine zw3 ?_
       refine zrt ?_
       first | (have hE : rhex s a = (0, (i : Int)) := by rw [← hq1, hexF.eq_1 s i, if_pos (by omega)]; first | (rw [if_pos (by omega)]; done) | (rw [if_neg (by omega), if_pos (by omega)]; done)); rw [hE]; exact ResQ_20 rfl rfl hcl (by simp [AV.lt, AV.ltL]) (Ret_of rfl) | (have hE : rhex s a = (v, -1) := by rw [← hq1, hexF.eq_1 s i, if_neg (by omega)]); rw [hE]; exact ResQ_20 rfl rfl hcl (by simp [AV.lt, AV.ltL]) (Ret_of rfl)
      ·(try rw [h9]); (try simp only [decide_eq_true_eq, decide_eq_false_iff_not, Bool.not_eq_true', Bool.not_eq_false', Int.not_lt, Int.not_le, Bool.not_true, Bool.not_false, Int.toNat_natCast, tn1, tn2, tnn, bne_iff_ne, beq_iff_eq, beq_eq_false_iff_ne, ne_eq, Decidable.not_not] at h9)
       refine AWp_skip ?_
       refine AWp_regL ?_
       refine zv5 ?_
       refine AWp_regL ?_
       refine zv3 ?_
       refine ⟨(i + 1, 16 * v + hexd (bat s i).toNat), σ.length, ⟨?_, ?_, ?_, ?_⟩, ?_, Nat.le_refl _, ⟨rfl, rfl, rfl, rfl, rfl, trivial⟩, hcl, ?_, List.take_length⟩
       ·rw [← hq1, hexF.eq_1 s i, if_pos (by omega), if_neg (by omega), if_neg (by omega)]
       ·simp only; omega
       ·simp only; omega
       ·simp only; omega
       ·simp only; omega
       ·simp [ltE, AV.lt]
 ·(try rw [h1]); (try simp only [decide_eq_true_eq, decide_eq_false_iff_not, Bool.not_eq_true', Bool.not_eq_false', Int.not_lt, Int.not_le, Bool.not_true, Bool.not_false, Int.toNat_natCast, tn1, tn2, tnn, bne_iff_ne, beq_iff_eq, beq_eq_false_iff_ne, ne_eq, Decidable.not_not] at h1)
  refine AWp_exit ?_
  refine zw3 ?_
  refine zrt ?_
  first | (have hE : rhex s a = (0, (i : Int)) := by rw [← hq1, hexF.eq_1 s i, if_pos (by omega)]; first | (rw [if_pos (by omega)]; done) | (rw [if_neg (by omega), if_pos (by omega)]; done)); rw [hE]; exact ResQ_20 rfl rfl hcl (by simp [AV.lt, AV.ltL]) (Ret_of rfl) | (have hE : rhex s a = (v, -1) := by rw [← hq1, hexF.eq_1 s i, if_neg (by omega)]); rw [hE]; exact ResQ_20 rfl rfl hcl (by simp [AV.lt, AV.ltL]) (Ret_of rfl)

theorem low_c (s : ByteArray) (a : Nat) (σ : List AO) (hs : s.size ≤ 1000000) (ha : a ≤ 2000000) : ACalls Tryz.prog 143 [.str s, .int .i64 (a : Int)] σ (Ret (.int .i64 (rlow s a)) σ) := by
 refine ACalls_body Tryz.func143 rfl Tryz.ntmps143 (res1 Tryz.results143) (Nat.le_of_ble_eq_true rfl) (fun hcl hal => ?_)
 have hh := rhex_ok s (a + 2)
 refine zw1 ?_
 refine AWp_seq ?_
 refine zw5 ?_
 refine AWp_cond rfl (fun h1 => ?_) (fun h1 => ?_)
 ·(try rw [h1]); (try simp only [decide_eq_true_eq, decide_eq_false_iff_not, Bool.not_eq_true', Bool.not_eq_false', Int.not_lt, Int.not_le, Bool.not_true, Bool.not_false, Int.toNat_natCast, tn1, tn2, tnn, bne_iff_ne, beq_iff_eq, beq_eq_false_iff_ne, ne_eq, Decidable.not_not] at h1)
  refine zw1 ?_
  refine zrt ?_
  refine ResQ_10 rfl hcl (by simp [AV.lt, AV.ltL]) (Ret_of ?_)
  congr 1; unfold rlow; first | (rw [if_pos (by omega)]; done) | (rw [if_neg (by omega), if_pos (by omega)]; done) | (rw [if_neg (by omega), if_neg (by omega), if_pos (by omega)]; done) | (rw [if_neg (by omega), if_neg (by omega), if_neg (by omega)]; done)
 ·(try rw [h1]); (try simp only [decide_eq_true_eq, decide_eq_false_iff_not, Bool.not_eq_true', Bool.not_eq_false', Int.not_lt, Int.not_le, Bool.not_true, Bool.not_false, Int.toNat_natCast, tn1, tn2, tnn, bne_iff_ne, beq_iff_eq, beq_eq_false_iff_ne, ne_eq, Decidable.not_not] at h1)
  refine AWp_skip ?_
  refine AWp_seq ?_
  refine zu5 ?_
  refine zsp 16 rfl (fun h2 => ?_) fun h2 => ?_
  ·rw [h2]; (try simp only [decide_eq_true_eq, decide_eq_false_iff_not, Bool.not_eq_true', Bool.not_eq_false', Int.not_lt, Int.not_le, Bool.not_true, Bool.not_false, Int.toNat_natCast, tn1, tn2, tnn, bne_iff_ne, beq_iff_eq, beq_eq_false_iff_ne, ne_eq, Decidable.not_not] at h2)
   refine zv6 ?_
   refine AWp_condT rfl ?_
   refine zw1 ?_
   refine zrt ?_
   refine ResQ_10 rfl hcl (by simp [AV.lt, AV.ltL]) (Ret_of ?_)
   congr 1; unfold rlow; first | (rw [if_pos (by omega)]; done) | (rw [if_neg (by omega), if_pos (by omega)]; done) | (rw [if_neg (by omega), if_neg (by omega), if_pos (by omega)]; done) | (rw [if_neg (by omega), if_neg (by omega), if_neg (by omega)]; done)
  ·rw [h2]; (try simp only [decide_eq_true_eq, decide_eq_false_iff_not, Bool.not_eq_true', Bool.not_eq_false', Int.not_lt, Int.not_le, Bool.not_true, Bool.not_false, Int.toNat_natCast, tn1, tn2, tnn, bne_iff_ne, beq_iff_eq, beq_eq_false_iff_ne, ne_eq, Decidable.not_not] at h2)
   refine zv6 ?_
   refine AWp_cond rfl (fun h3 => ?_) (fun h3 => ?_)
   ·(try rw [h3]); (try simp only [decide_eq_true_eq, decide_eq_false_iff_not, Bool.not_eq_true', Bool.not_eq_false', Int.not_lt, Int.not_le, Bool.not_true, Bool.not_false, Int.toNat_natCast, tn1, tn2, tnn, bne_iff_ne, beq_iff_eq, beq_eq_false_iff_ne, ne_eq, Decidable.not_not] at h3)
    refine zw1 ?_
    refine zrt ?_
    refine ResQ_10 rfl hcl (by simp [AV.lt, AV.ltL]) (Ret_of ?_)
    congr 1; unfold rlow; first | (rw [if_pos (by omega)]; done) | (rw [if_neg (by omega), if_pos (by omega)]; done) | (rw [if_neg (by omega), if_neg (by omega), if_pos (by omega)]; done) | (rw [if_neg (by omega), if_neg (by omega), if_neg (by omega)]; done)
   ·(try rw [h3]); (try simp only [decide_eq_true_eq, decide_eq_false_iff_not, Bool.not_eq_true', Bool.not_eq_false', Int.not_lt, Int.not_le, Bool.not_true, Bool.not_false, Int.toNat_natCast, tn1, tn2, tnn, bne_iff_ne, beq_iff_eq, beq_eq_false_iff_ne, ne_eq, Decidable.not_not] at h3)
    refine AWp_skip ?_
    refine zu3 ?_
    refine zt rfl (zc rfl (hex_c s (a + 2) _ hs (by omega))) ?_
    refine zv5 ?_
    refine AWp_seq ?_
    refine zu3 ?_
    refine zsp 32 rfl (fun h4 => ?_) fun h4 => ?_
    ·rw [h4]; (try simp only [decide_eq_true_eq, decide_eq_false_iff_not, Bool.not_eq_true', Bool.not_eq_false', Int.not_lt, Int.not_le, Bool.not_true, Bool.not_false, Int.toNat_natCast, tn1, tn2, tnn, bne_iff_ne, beq_iff_eq, beq_eq_false_iff_ne, ne_eq, Decidable.not_not] at h4)
     refine zv7 ?_
     refine AWp_condT rfl ?_
     refine zw1 ?_
     refine zrt ?_
     refine ResQ_10 rfl hcl (by simp [AV.lt, AV.ltL]) (Ret_of ?_)
     congr 1; unfold rlow; first | (rw [if_pos (by omega)]; done) | (rw [if_neg (by omega), if_pos (by omega)]; done) | (rw [if_neg (by omega), if_neg (by omega), if_pos (by omega)]; done) | (rw [if_neg (by omega), if_neg (by omega), if_neg (by omega)]; done)
    ·rw [h4]; (try simp only [decide_eq_true_eq, decide_eq_false_iff_not, Bool.not_eq_true', Bool.not_eq_false', Int.not_lt, Int.not_le, Bool.not_true, Bool.not_false, Int.toNat_natCast, tn1, tn2, tnn, bne_iff_ne, beq_iff_eq, beq_eq_false_iff_ne, ne_eq, Decidable.not_not] at h4)
     refine zg4 ?_
     refine zsp 36 rfl (fun h5 => ?_) fun h5 => ?_
     ·rw [h5]; (try simp only [decide_eq_true_eq, decide_eq_false_iff_not, Bool.not_eq_true', Bool.not_eq_false', Int.not_lt, Int.not_le, Bool.not_true, Bool.not_false, Int.toNat_natCast, tn1, tn2, tnn, bne_iff_ne, beq_iff_eq, beq_eq_false_iff_ne, ne_eq, Decidable.not_not] at h5)
      refine zv3 ?_
      refine AWp_condT rfl ?_
      refine zw1 ?_
      refine zrt ?_
      refine ResQ_10 rfl hcl (by simp [AV.lt, AV.ltL]) (Ret_of ?_)
      congr 1; unfold rlow; first | (rw [if_pos (by omega)]; done) | (rw [if_neg (by omega), if_pos (by omega)]; done) | (rw [if_neg (by omega), if_neg (by omega), if_pos (by omega)]; done) | (rw [if_neg (by omega), if_neg (by omega), if_neg (by omega)]; done)
     ·rw [h5]; (try simp only [decide_eq_true_eq, decide_eq_false_iff_not, Bool.not_eq_true', Bool.not_eq_false', Int.not_lt, Int.not_le, Bool.not_true, Bool.not_false, Int.toNat_natCast, tn1, tn2, tnn, bne_iff_ne, beq_iff_eq, beq_eq_false_iff_ne, ne_eq, Decidable.not_not] at h5)
      refine zv3 ?_
      refine AWp_cond rfl (fun h6 => ?_) (fun h6 => ?_)
      ·(try rw [h6]); (try simp only [decide_eq_true_eq, decide_eq_false_iff_not, Bool.not_eq_true', Bool.not_eq_false', Int.not_lt, Int.not_le, Bool.not_true, Bool.not_false, Int.toNat_natCast, tn1, tn2, tnn, bne_iff_ne, beq_iff_eq, beq_eq_false_iff_ne, ne_eq, Decidable.not_not] at h6)
       refine zw1 ?_
       refine zrt ?_
       refine ResQ_10 rfl hcl (by simp [AV.lt, AV.ltL]) (Ret_of ?_)
       congr 1; unfold rlow; first | (rw [if_pos (by omega)]; done) | (rw [if_neg (by omega), if_pos (by omega)]; done) | (rw [if_neg (by omega), if_neg (by omega), if_pos (by omega)]; done) | (rw [if_neg (by omega), if_neg (by omega), if_neg (by omega)]; done)
      ·(try rw [h6]); (try simp only [decide_eq_true_eq, decide_eq_false_iff_not, Bool.not_eq_true', Bool.not_eq_false', Int.not_lt, Int.not_le, Bool.not_true, Bool.not_false, Int.toNat_natCast, tn1, tn2, tnn, bne_iff_ne, beq_iff_eq, beq_eq_false_iff_ne, ne_eq, Decidable.not_not] at h6)
       refine AWp_skip ?_
       refine zw2 ?_
       refine zrt ?_
       refine ResQ_10 rfl hcl (by simp [AV.lt, AV.ltL]) (Ret_of ?_)
       congr 1; unfold rlow; first | (rw [if_pos (by omega)]; done) | (rw [if_neg (by omega), if_pos (by omega)]; done) | (rw [if_neg (by omega), if_neg (by omega), if_pos (by omega)]; done) | (rw [if_neg (by omega), if_neg (by omega), if_neg (by omega)]; done)

theorem char_c (v : Int) (σ : List AO) (h0 : 0 ≤ v) (h1 : v < 1114112) : ACalls Tryz.prog 144 [.int .i64 v] σ (Ret (.str (rchar v)) σ) := by
 refine ACalls_body Tryz.func144 rfl Tryz.ntmps144 (res1 Tryz.results144) (Nat.le_of_ble_eq_true rfl) (fun hcl hal => ?_)
 refine zw1 ?_
 refine AWp_seq ?_
 refine zw2 ?_
 refine AWp_cond rfl (fun h1 => ?_) (fun h1 => ?_)
 ·(try rw [h1]); replace h1 := zcl h1
  refine zu2 ?_
  refine zt rfl (op_buildSlice [[_]] rfl Tryz.underlying146 Tryz.sizeOf5 Tryz.zeroValue5 rfl (by decide) (by decide) rfl rfl rfl rfl rfl) ?_
  refine zt rfl (op_bytesStr (b := _) (m := 1) rfl Tryz.underlying146 Tryz.underlying5 Tryz.underlying9 (bs1 ⟨by omega, by omega⟩) rfl rfl) ?_
  refine zv1 ?_
  refine zrt ?_
  refine ResQ_10 rfl hcl (by simp [AV.lt, AV.ltL]) (Ret_of ?_)
  congr 1; unfold rchar; first | (rw [if_pos (by omega)]; done) | (rw [if_neg (by omega), if_pos (by omega)]; done) | (rw [if_neg (by omega), if_neg (by omega), if_pos (by omega)]; done) | (rw [if_neg (by omega), if_neg (by omega), if_neg (by omega)]; done)
 ·(try rw [h1]); replace h1 := zcl h1
  refine AWp_skip ?_
  refine AWp_seq ?_
  refine zw2 ?_
  refine AWp_cond rfl (fun h2 => ?_) (fun h2 => ?_)
  ·(try rw [h2]); replace h2 := zcl h2
   refine zu1 ?_
   refine zt rfl (op_quo64 rfl rfl rfl (by omega) (by omega) (by omega)) ?_
   refine zg3 ?_
   refine zt rfl (op_rem64 rfl rfl rfl (by omega) (by omega)) ?_
   refine zg2 ?_
   refine zt rfl (op_buildSlice [[_], [_]] rfl Tryz.underlying146 Tryz.sizeOf5 Tryz.zeroValue5 rfl (by decide) (by decide) rfl rfl rfl rfl rfl) ?_
   refine zt rfl (op_bytesStr (b := _) (m := 2) rfl Tryz.underlying146 Tryz.underlying5 Tryz.underlying9 (bs2 ⟨by omega, by omega⟩ ⟨by omega, by omega⟩) rfl rfl) ?_
   refine zv1 ?_
   refine zrt ?_
   refine ResQ_10 rfl hcl (by simp [AV.lt, AV.ltL]) (Ret_of ?_)
   congr 1; unfold rchar; first | (rw [if_pos (by omega)]; done) | (rw [if_neg (by omega), if_pos (by omega)]; done) | (rw [if_neg (by omega), if_neg (by omega), if_pos (by omega)]; done) | (rw [if_neg (by omega), if_neg (by omega), if_neg (by omega)]; done)
  ·(try rw [h2]); replace h2 := zcl h2
   refine AWp_skip ?_
   refine AWp_seq ?_
   refine zw2 ?_
   refine AWp_cond rfl (fun h3 => ?_) (fun h3 => ?_)
   ·(try rw [h3]); replace h3 := zcl h3
    refine zu1 ?_
    refine zt rfl (op_quo64 rfl rfl rfl (by omega) (by omega) (by omega)) ?_
    refine zg3 ?_
    refine zt rfl (op_quo64 rfl rfl rfl (by omega) (by omega) (by omega)) ?_
    refine zt rfl (op_rem64 rfl rfl rfl (by omega) (by omega)) ?_
    refine zg3 ?_
    refine zt rfl (op_rem64 rfl rfl rfl (by omega) (by omega)) ?_
    refine zg2 ?_
    refine zt rfl (op_buildSlice [[_], [_], [_]] rfl Tryz.underlying146 Tryz.sizeOf5 Tryz.zeroValue5 rfl (by decide) (by decide) rfl rfl rfl rfl rfl) ?_
    refine zt rfl (op_bytesStr (b := _) (m := 3) rfl Tryz.underlying146 Tryz.underlying5 Tryz.underlying9 (bs3 ⟨by omega, by omega⟩ ⟨by omega, by omega⟩ ⟨by omega, by omega⟩) rfl rfl) ?_
    refine zv1 ?_
    refine zrt ?_
    refine ResQ_10 rfl hcl (by simp [AV.lt, AV.ltL]) (Ret_of ?_)
    congr 1; unfold rchar; first | (rw [if_pos (by omega)]; done) | (rw [if_neg (by omega), if_pos (by omega)]; done) | (rw [if_neg (by omega), if_neg (by omega), if_pos (by omega)]; done) | (rw [if_neg (by omega), if_neg (by omega), if_neg (by omega)]; done)
   ·(try rw [h3]); replace h3 := zcl h3
    refine AWp_skip ?_
    refine zu1 ?_
    refine zt rfl (op_quo64 rfl rfl rfl (by omega) (by omega) (by omega)) ?_
    refine zg3 ?_
    refine zt rfl (op_quo64 rfl rfl rfl (by omega) (by omega) (by omega)) ?_
    refine zt rfl (op_rem64 rfl rfl rfl (by omega) (by omega)) ?_
    refine zg3 ?_
    refine zt rfl (op_quo64 rfl rfl rfl (by omega) (by omega) (by omega)) ?_
    refine zt rfl (op_rem64 rfl rfl rfl (by omega) (by omega)) ?_
    refine zg3 ?_
    refine zt rfl (op_rem64 rfl rfl rfl (by omega) (by omega)) ?_
    refine zg2 ?_
    refine zt rfl (op_buildSlice [[_], [_], [_], [_]] rfl Tryz.underlying146 Tryz.sizeOf5 Tryz.zeroValue5 rfl (by decide) (by decide) rfl rfl rfl rfl rfl) ?_
    refine zt rfl (op_bytesStr (b := _) (m := 4) rfl Tryz.underlying146 Tryz.underlying5 Tryz.underlying9 (bs4 ⟨by omega, by omega⟩ ⟨by omega, by omega⟩ ⟨by omega, by omega⟩ ⟨by omega, by omega⟩) rfl rfl) ?_
    refine zv1 ?_
    refine zrt ?_
    refine ResQ_10 rfl hcl (by simp [AV.lt, AV.ltL]) (Ret_of ?_)
    congr 1; unfold rchar; first | (rw [if_pos (by omega)]; done) | (rw [if_neg (by omega), if_pos (by omega)]; done) | (rw [if_neg (by omega), if_neg (by omega), if_pos (by omega)]; done) | (rw [if_neg (by omega), if_neg (by omega), if_neg (by omega)]; done)
end Lg
