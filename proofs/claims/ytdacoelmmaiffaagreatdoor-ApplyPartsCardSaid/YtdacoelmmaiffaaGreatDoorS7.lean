/- A part of the proof of For every input the law doubletlaw09.ApplyParts returns true: a patch's beginning, and then the rest, is the patch: the same value, or the same error at the same operation; the value stays as it is; a test of what is there changes nothing; the input reads as it did.: W9 Qz M2 M3 W8 Sh6 X1 X2 Y1 Y2 Y3 Lg54 Y4 Y5 Y6 Lk8 Y7 Lg55 X3 Y10 Y11 Y8 Y9 Y12. -/
import Derived.Test.YtdacoelmmaiffaaGreatDoorS6
import Derived.Test.YtdacoelmmaiffaaGreatDoorS4
import Derived.Test.YtdacoelmmaiffaaGreatDoorS5
import Derived.Test.YtdacoelmmaiffaaGreatDoorS3
import Derived.Shelf.Strings.SlTrimAscii
import Derived.Shelf.Strconv.Atoi
import Derived.Test.YtdacoelmmaiffaaGreatDoorProg
set_option linter.unusedVariables false
set_option linter.unusedSimpArgs false
set_option linter.unusedSectionVars false
set_option maxRecDepth 20000
set_option maxHeartbeats 4000000
namespace Lg
open Go Go.Proofs Go.RowKit
variable [GLay] 
theorem find_c (v : JV) (key : ByteArray) (σ : List AO) (hb : v.m.length ≤ 1000000) : ACalls Tryz.prog 113 [.agg (vcells v), .str key] σ (FindR v key σ) := by
 refine ACalls_bodyC Tryz.func113 rfl Tryz.ntmps113 (by rw [Tryz.results113]; exact (.ck Tryz.isAgg28 Tryz.sizeOf28 (.t .nil))) (Nat.le_of_ble_eq_true rfl) (fun hcl hal => ?_)
 rw [vcells_eq v]
 refine zw3 ?_
 refine AWp_seq ?_
 refine zw3 ?_
 refine AWp_cond rfl (fun h1 => ?_) (fun h1 => ?_)
 ·(try rw [h1]); replace h1 := zcl h1
  refine zw3 ?_
  refine zrt ?_
  have hf : jfind v key = none := by simp [jfind, h1]
  refine RQ_ret (rkvs_cons (rkv_ck rfl rfl rfl) (rkvs_cons (rkv_t rfl) rfl)) hcl ?_ ⟨rfl, _, _, rfl, ?_, ?_⟩
  ·simp [rks, AV.lt, AV.ltL, ofConst1]
  ·rw [hf]; exact vle8 nilL nilM
  ·rw [hf]; rfl
 ·(try rw [h1]); replace h1 := zcl h1
  refine AWp_skip ?_
  refine AWp_seq ?_
  refine zw4 ?_
  refine AWp_block ?_
  -- loop 0 LIVE 1:param 4:alloc 5:assign 13:load 14:call 15:move
  refine AWp_loop (ι := Nat) (fun i => i ≤ v.m.length ∧ ∀ (j : Nat) q, j < i → v.m[j]? = some q → ¬ q.1 = key) (fun i => ⟨[], [(1, .str key), (2, .ptr (σ.length + 0) 0), (4, .ptr (σ.length + 1) 0), (13, .sl false 9 (mcells v.m)), (14, .int .i64 (v.m.length : Int)), (15, .int .i64 (i : Int))]⟩) (fun i => σ ++ [_, _]) (fun i => v.m.length - i) (0) (⟨Nat.zero_le _, fun j q hj => absurd hj (by omega)⟩) ?_ rfl (fun i hi => ?_)
  ·refine ⟨rfl, rfl, rfl, rfl, rfl, ?_, rfl, trivial⟩
   rw [← mcells_length]; rfl
  obtain ⟨hi1, hi2⟩ := hi
  refine zw1 ?_
  refine AWp_seq ?_
  refine AWp_cond rfl (fun h2 => ?_) (fun h2 => ?_)
  ·(try rw [h2]); replace h2 := zcl h2
   obtain ⟨q, hq⟩ : ∃ q, v.m[i]? = some q := ⟨_, List.getElem?_eq_getElem (show i < v.m.length by omega)⟩
   refine AWp_skip ?_
   refine AWp_seq ?_
   refine AWp_block ?_
   refine zu1 ?_
   rw [vcells_eq q.2]
   refine zv3 ?_
   refine zw4 ?_
   refine AWp_cond rfl (fun h3 => ?_) (fun h3 => ?_)
   ·(try rw [h3]); replace h3 := zcl h3
    refine zw4 ?_
    refine zrt ?_
    have hf : jfind v key = some q.2 := by rw [jfind, if_pos h1, find_some (fun j y hj hy => by simpa using hi2 j y hj hy) hq (by simpa using h3)]; rfl
    refine RQ_ret (rkvs_cons (rkv_ck rfl rfl rfl) (rkvs_cons (rkv_t rfl) rfl)) hcl ?_ ⟨rfl, _, _, rfl, ?_, ?_⟩
    ·simp [rks, AV.lt, AV.ltL, ofConst1]
    ·rw [hf]; show AVleL _ (vcells q.2); rw [vcells_eq]; exact AVleL.refl _
    ·rw [hf]; rfl
   ·(try rw [h3]); replace h3 := zcl h3
    refine AWp_skip ?_
    refine AWp_regL ?_
    refine zv2 ?_
    refine ⟨i + 1, σ.length + 2, ⟨by omega, fun j y hj hy => ?_⟩, by omega, by simp, ⟨rfl, rfl, rfl, rfl, rfl, rfl, rfl, trivial⟩, closed_own 2 hcl ?_, ?_, take_own 2⟩
    ·by_cases e : j = i
     ·subst e; rw [hq] at hy; cases hy; exact h3
     ·exact hi2 j y (by omega) hy
    ·simp [ownLt, AO.cells, AV.ltL, AV.lt, ofConst1]
    ·simp [ltE, AV.lt]
  ·(try rw [h2]); replace h2 := zcl h2
   refine AWp_exit ?_
   refine zw3 ?_
   refine zrt ?_
   have hf : jfind v key = none := by rw [jfind, if_pos h1, find_none (fun j y hy => by simpa using hi2 j y (by have := (List.getElem?_eq_some_iff.1 hy).1; omega) hy)]; rfl
   refine RQ_ret (rkvs_cons (rkv_ck rfl rfl rfl) (rkvs_cons (rkv_t rfl) rfl)) hcl ?_ ⟨rfl, _, _, rfl, ?_, ?_⟩
   ·simp [rks, AV.lt, AV.ltL, ofConst1]
   ·rw [hf]; exact vle8 nilL nilM
   ·rw [hf]; rfl

theorem rfind_c (v : JV) (key : ByteArray) (σ : List AO) (hb : v.m.length ≤ 1000000) : ACalls Tryz.prog 48 [.agg (vcells v), .str key] σ (FindR v key σ) := by
 refine ACalls_bodyC Tryz.func48 rfl Tryz.ntmps48 (by rw [Tryz.results48]; exact (.ck Tryz.isAgg28 Tryz.sizeOf28 (.t .nil))) (Nat.le_of_ble_eq_true rfl) (fun hcl hal => ?_)
 have hmc := mcells_length v.m
 rw [vcells_eq v]
 refine zw3 ?_
 refine AWp_seq ?_
 refine zw1 ?_
 refine AWp_block ?_
 -- loop 0 LIVE 1:param 2:box 4:alloc 5:assign 6:assign
 refine AWp_loop (ι := Nat) (fun i => i ≤ v.m.length ∧ ∀ (j : Nat) q, j < i → v.m[j]? = some q → ¬ (v.kind = 5 ∧ q.1 = key)) (fun i => ⟨[], [(1, .str key), (2, .ptr (σ.length + 0) 0), (4, .ptr (σ.length + 1) 0), (6, .int .i64 (i : Int))]⟩) (fun i => σ ++ [_, _]) (fun i => v.m.length - i) (0) (⟨Nat.zero_le _, fun j q hj => absurd hj (by omega)⟩) ?_ rfl (fun i hi => ?_)
 ·exact ⟨rfl, rfl, rfl, rfl, rfl, trivial⟩
 obtain ⟨hi1, hi2⟩ := hi
 refine AWp_seq ?_
 refine zw5 ?_
 refine AWp_cond rfl (fun h1 => ?_) (fun h1 => ?_)
 ·(try rw [h1]); replace h1 := zcl h1
  obtain ⟨q, hq⟩ : ∃ q, v.m[i]? = some q := ⟨_, List.getElem?_eq_getElem (show i < v.m.length by omega)⟩
  refine AWp_skip ?_
  refine AWp_seq ?_
  refine AWp_block ?_
  refine zu4 ?_
  refine zsp 17 rfl (fun h2 => ?_) fun h2 => ?_
  ·rw [h2]; replace h2 := zcl h2
   refine zv9 ?_
   refine AWp_cond rfl (fun h3 => ?_) (fun h3 => ?_)
   ·(try rw [h3]); replace h3 := zcl h3
    refine zu5 ?_
    rw [vcells_eq q.2]
    refine zv3 ?_
    refine zrt ?_
    have hf : jfind v key = some q.2 := by rw [jfind, if_pos h2, find_some (fun j y hj hy => by have := hi2 j y hj hy; simpa [h2] using this) hq (by simpa using h3)]; rfl
    refine RQ_ret (rkvs_cons (rkv_ck rfl rfl rfl) (rkvs_cons (rkv_t rfl) rfl)) hcl ?_ ⟨rfl, _, _, rfl, ?_, ?_⟩
    ·simp [rks, AV.lt, AV.ltL, ofConst1]
    ·rw [hf]; show AVleL _ (vcells q.2); rw [vcells_eq]; exact AVleL.refl _
    ·rw [hf]; rfl
   ·(try rw [h3]); replace h3 := zcl h3
    refine AWp_skip ?_
    refine AWp_regL ?_
    refine zv3 ?_
    refine ⟨i + 1, σ.length + 2, ⟨by omega, fun j y hj hy => ?_⟩, by omega, by simp, ⟨rfl, rfl, rfl, rfl, rfl, trivial⟩, closed_own 2 hcl ?_, ?_, take_own 2⟩
    ·by_cases e : j = i
     ·subst e; rw [hq] at hy; cases hy; exact fun h => h3 h.2
     ·exact hi2 j y (by omega) hy
    ·simp [ownLt, AO.cells, AV.ltL, AV.lt, ofConst1]
    ·simp [ltE, AV.lt]
  ·rw [h2]; replace h2 := zcl h2
   refine zv9 ?_
   refine AWp_condF rfl ?_
   refine AWp_skip ?_
   refine AWp_regL ?_
   refine zv3 ?_
   refine ⟨i + 1, σ.length + 2, ⟨by omega, fun j y hj hy => ?_⟩, by omega, by simp, ⟨rfl, rfl, rfl, rfl, rfl, trivial⟩, closed_own 2 hcl ?_, ?_, take_own 2⟩
   ·by_cases e : j = i
    ·subst e; rw [hq] at hy; cases hy; exact fun h => h2 h.1
    ·exact hi2 j y (by omega) hy
   ·simp [ownLt, AO.cells, AV.ltL, AV.lt, ofConst1]
   ·simp [ltE, AV.lt]
 ·(try rw [h1]); replace h1 := zcl h1
  refine AWp_exit ?_
  refine zw3 ?_
  refine zrt ?_
  have hf : jfind v key = none := by
   by_cases hk : v.kind = 5
   ·rw [jfind, if_pos hk, find_none (fun j y hy => by have := hi2 j y (by have := (List.getElem?_eq_some_iff.1 hy).1; omega) hy; simpa [hk] using this)]; rfl
   ·simp [jfind, hk]
  refine RQ_ret (rkvs_cons (rkv_ck rfl rfl rfl) (rkvs_cons (rkv_t rfl) rfl)) hcl ?_ ⟨rfl, _, _, rfl, ?_, ?_⟩
  ·simp [rks, AV.lt, AV.ltL, ofConst1]
  ·rw [hf]; exact vle8 nilL nilM
  ·rw [hf]; rfl
end Lg
set_option maxRecDepth 20000
set_option maxHeartbeats 4000000
namespace Lg
open Go Go.Proofs Go.RowKit
variable [GLay] 
theorem rptrQ_c (s : ByteArray) (σ : List AO) (hs : s.size ≤ 1000000) : ACalls Tryz.prog 34 [.str s] σ (Ret (.tup [.sl false 1 (srow (pN s.data.toList)), .int .i64 (pEi s.data.toList)]) σ) := by
  have hl : s.data.toList.length = s.size := Array.length_toList ..
  have h := rptr_c s.data.toList σ (by omega)
  rw [← ba_eta] at h; exact h
theorem findQ_c (v : JV) (key : ByteArray) (cs : List AV) (σ : List AO) (hc : vcells v = cs) (hb : v.m.length ≤ 1000000) : ACalls Tryz.prog 113 [.agg cs, .str key] σ (Ret (.tup [.agg (vcells (jfD v key)), .bool (jfB v key)]) σ) := by
  subst hc; exact FindR.ret (find_c v key σ hb)
theorem rfindQ_c (v : JV) (key : ByteArray) (cs : List AV) (σ : List AO) (hc : vcells v = cs) (hb : v.m.length ≤ 1000000) : ACalls Tryz.prog 48 [.agg cs, .str key] σ (Ret (.tup [.agg (vcells (jfD v key)), .bool (jfB v key)]) σ) := by
  subst hc; exact FindR.ret (rfind_c v key σ hb)
end Lg
set_option maxRecDepth 20000
set_option maxHeartbeats 4000000
namespace Lg
open Go Go.Proofs Go.RowKit
variable [GLay] 
end Lg
set_option maxRecDepth 20000
set_option maxHeartbeats 4000000
namespace Lg
open Go Go.Proofs Go.RowKit
variable [GLay] 
end Lg
set_option maxRecDepth 20000
set_option maxHeartbeats 4000000
namespace Lg
open Go Go.Proofs Go.RowKit
variable [GLay] 
theorem rsame_any (n : Nat) : ∀ (x y : JV) (σ : List AO), jsize x ≤ n → jb x → jb y → ACalls Tryz.prog 17 [.agg (vcells x), .agg (vcells y)] σ (Ret (.bool (pb (x = y))) σ) := by
 induction n with
 | zero => intro x y σ h; have := jsize_pos x; omega
 | succ n ih =>
 intro x y σ hn hjx hjy
 have hvs := jsize_eq x
 have hl := lsize_nn x.l
 have hm := msize_nn x.m
 obtain ⟨hb1, hb2, hb3, hb4, hb5, hb6⟩ := (jb_eq x).1 hjx
 obtain ⟨hc1, hc2, hc3, hc4, hc5, hc6⟩ := (jb_eq y).1 hjy
 have hxl := lcells_length x.l
 have hyl := lcells_length y.l
 have hxm := mcells_length x.m
 have hym := mcells_length y.m
 refine ACalls_body Tryz.func17 rfl Tryz.ntmps17 (res1 Tryz.results17) (Nat.le_of_ble_eq_true rfl) (fun hcl hal => ?_)
 rw [vcells_eq x, vcells_eq y]
 refine zw3 ?_
 refine AWp_seq ?_
 refine zu6 ?_
 refine zsp 14 rfl (fun h1 => ?_) fun h1 => ?_
 ·rw [h1]; replace h1 := zcl h1
  refine zg30 ?_
  refine zg8 ?_
  refine zon ?_
  refine AWp_condT rfl ?_
  refine zw1 ?_
  refine zrt ?_
  refine ResQ_1 rfl hcl trivial (Ret_of (bool_f ?_))
  rw [jv_ext]; intro hj; obtain ⟨j1, j2, ⟨j3, j4, j5⟩, j6, j7, j8⟩ := hj
  simp_all
 ·rw [h1]; replace h1 := zcl h1
  refine zg7 ?_
  refine zsp 21 rfl (fun h2 => ?_) fun h2 => ?_
  ·rw [h2]; replace h2 := zcl h2
   refine zg30 ?_
   refine zg1 ?_
   refine zon ?_
   refine AWp_condT rfl ?_
   refine zw1 ?_
   refine zrt ?_
   refine ResQ_1 rfl hcl trivial (Ret_of (bool_f ?_))
   rw [jv_ext]; intro hj; obtain ⟨j1, j2, ⟨j3, j4, j5⟩, j6, j7, j8⟩ := hj
   simp_all
  ·rw [h2]; replace h2 := zcl h2
   refine zg4 ?_
   refine ztG rfl rfl (op_neS rfl Tryz.underlying24 (by kernel_rfl) (by kernel_rfl) (.bool _ _ _ _ _ _ _ _ (by decide) rfl Tryz.underlying4 (.str _ _ _ _ _ _ _ _ (by decide) rfl Tryz.underlying9 (.int _ _ _ _ _ _ _ _ _ _ (by decide) rfl Tryz.underlying3 (.nil _)))) rfl rfl) ?_
   refine zg2 ?_
   refine zsp 28 rfl (fun h3 => ?_) fun h3 => ?_
   ·rw [h3]; replace h3 := zcl h3
    refine zg20 ?_
    refine zg4 ?_
    refine zon ?_
    refine AWp_condT rfl ?_
    refine zw1 ?_
    refine zrt ?_
    refine ResQ_1 rfl hcl trivial (Ret_of (bool_f ?_))
    rw [jv_ext]; intro hj; obtain ⟨j1, j2, ⟨j3, j4, j5⟩, j6, j7, j8⟩ := hj
    simp_all
   ·rw [h3]; replace h3 := zcl h3
    refine zg7 ?_
    refine zsp 35 rfl (fun h4 => ?_) fun h4 => ?_
    ·rw [h4]; replace h4 := zcl h4
     refine zg10 ?_
     refine zg7 ?_
     refine zon ?_
     refine AWp_condT rfl ?_
     refine zw1 ?_
     refine zrt ?_
     refine ResQ_1 rfl hcl trivial (Ret_of (bool_f ?_))
     rw [jv_ext]; intro hj; obtain ⟨j1, j2, ⟨j3, j4, j5⟩, j6, j7, j8⟩ := hj
     simp_all
    ·rw [h4]; replace h4 := zcl h4
     refine zg9 ?_
     refine zsp 44 rfl (fun h5 => ?_) fun h5 => ?_
     ·rw [h5]; replace h5 := zcl h5
      refine zv8 ?_
      refine AWp_condT rfl ?_
      refine zw1 ?_
      refine zrt ?_
      refine ResQ_1 rfl hcl trivial (Ret_of (bool_f ?_))
      rw [jv_ext]; intro hj; obtain ⟨j1, j2, ⟨j3, j4, j5⟩, j6, j7, j8⟩ := hj
      simp_all
     ·rw [h5]; replace h5 := zcl h5
      refine zv8 ?_
      refine AWp_cond rfl (fun h6 => ?_) (fun h6 => ?_)
      ·(try rw [h6]); replace h6 := zcl h6
       refine zw1 ?_
       refine zrt ?_
       refine ResQ_1 rfl hcl trivial (Ret_of (bool_f ?_))
       rw [jv_ext]; intro hj; obtain ⟨j1, j2, ⟨j3, j4, j5⟩, j6, j7, j8⟩ := hj
       simp_all
      ·(try rw [h6]); replace h6 := zcl h6
       have hlen1 : x.l.length = y.l.length := by omega
       have hlen2 : x.m.length = y.m.length := by omega
       refine AWp_skip ?_
       refine AWp_seq ?_
       refine zw1 ?_
       refine AWp_block ?_
       -- loop 0 LIVE 2:box 3:box 4:assign 5:assign
       refine AWp_loop (ι := Nat) (fun i => i ≤ x.l.length ∧ ∀ j : Nat, j < i → x.l[j]? = y.l[j]?) (fun i => ⟨[], [(2, .ptr (σ.length + 0) 0), (3, .ptr (σ.length + 1) 0), (5, .int .i64 (i : Int))]⟩) (fun i => σ ++ [_, _]) (fun i => x.l.length - i) (0) (⟨Nat.zero_le _, fun j hj => absurd hj (by omega)⟩) ?_ rfl (fun i hi => ?_)
       ·exact ⟨rfl, rfl, rfl, rfl, trivial⟩
       obtain ⟨hi1, hi2⟩ := hi
       refine AWp_seq ?_
       refine zw5 ?_
       refine AWp_cond rfl (fun h7 => ?_) (fun h7 => ?_)
       ·(try rw [h7]); replace h7 := zcl h7
        obtain ⟨u, hu⟩ : ∃ u, x.l[i]? = some u := ⟨_, List.getElem?_eq_getElem (show i < x.l.length by omega)⟩
        obtain ⟨w, hw⟩ : ∃ w, y.l[i]? = some w := ⟨_, List.getElem?_eq_getElem (show i < y.l.length by omega)⟩
        have hlm := lsize_mem hu
        refine AWp_skip ?_
        refine AWp_seq ?_
        refine AWp_block ?_
        refine AWp_seq ?_
        refine AWp_drawL #[0, 1, 0, 7, 15, 0, 32, 0, 224, 480, 1023, 2047] Tryz.mixed (by decide +kernel) (by decide +kernel) ?_
        refine zd1 ?_
        refine zp1 ?_
        refine zd1 ?_
        refine yA rfl rfl (fun _ => op_indexAddr rfl Tryz.underlying25 Tryz.sizeOf28 rfl rfl (by omega) (lcells_get hu)) ?_
        rw [vcells_eq u]
        refine zp1 ?_
        refine zd1 ?_
        refine zp1 ?_
        refine zd1 ?_
        refine yA rfl rfl (fun _ => op_indexAddr rfl Tryz.underlying25 Tryz.sizeOf28 rfl rfl (by omega) (lcells_get hw)) ?_
        rw [vcells_eq w]
        refine zp1 ?_
        refine yP rfl rfl (zc rfl (AC2 (vcells_eq u) (vcells_eq w) (ih u w _ (by omega) (lb_get hb5 hu) (lb_get hc5 hw)))) (trivial) ?_
        refine zd1 ?_
        refine RP.nil rfl ?_
        refine zw2 ?_
        refine AWp_cond rfl (fun h8 => ?_) (fun h8 => ?_)
        ·(try rw [h8]); replace h8 := zcl h8
         refine zw1 ?_
         refine zrt ?_
         refine ResQ_1 rfl hcl trivial (Ret_of (bool_f fun e => ?_))
         rw [e] at hu; rw [hu] at hw; cases hw; rw [pb_t rfl] at h8; cases h8
        ·(try rw [h8]); replace h8 := zcl h8
         refine AWp_skip ?_
         refine AWp_regL ?_
         refine zv3 ?_
         have huw := (pb_iff _).1 h8
         refine ⟨i + 1, σ.length + 2, ⟨by omega, fun j hj => ?_⟩, by omega, by simp, ⟨rfl, rfl, rfl, rfl, trivial⟩, closed_own 2 hcl ?_, ?_, take_own 2⟩
         ·by_cases e : j = i
          ·subst e; rw [hu, hw, huw]
          ·exact hi2 j (by omega)
         ·simp [ownLt, AO.cells, AV.ltL, AV.lt]
         ·simp [ltE, AV.lt]
       ·(try rw [h7]); replace h7 := zcl h7
        have hL : x.l = y.l := list_eq_of hlen1 fun j hj => hi2 j (by omega)
        clear hi2 hi1 h7
        refine AWp_exit ?_
        refine AWp_seq ?_
        refine zw1 ?_
        refine AWp_block ?_
        -- loop 1 LIVE 2:box 3:box 4:assign 7:assign
        refine AWp_loop (ι := Nat) (fun i => i ≤ x.m.length ∧ ∀ j : Nat, j < i → x.m[j]? = y.m[j]?) (fun i => ⟨[], [(2, .ptr (σ.length + 0) 0), (3, .ptr (σ.length + 1) 0), (7, .int .i64 (i : Int))]⟩) (fun i => σ ++ [_, _]) (fun i => x.m.length - i) (0) (⟨Nat.zero_le _, fun j hj => absurd hj (by omega)⟩) ?_ rfl (fun i hi => ?_)
        ·exact ⟨rfl, rfl, rfl, rfl, trivial⟩
        obtain ⟨hi3, hi4⟩ := hi
        refine AWp_seq ?_
        refine zw5 ?_
        refine AWp_cond rfl (fun h9 => ?_) (fun h9 => ?_)
        ·(try rw [h9]); replace h9 := zcl h9
         obtain ⟨u, hu⟩ : ∃ u, x.m[i]? = some u := ⟨_, List.getElem?_eq_getElem (show i < x.m.length by omega)⟩
         obtain ⟨w, hw⟩ : ∃ w, y.m[i]? = some w := ⟨_, List.getElem?_eq_getElem (show i < y.m.length by omega)⟩
         have hms := msize_mem hu
         refine AWp_skip ?_
         refine AWp_seq ?_
         refine AWp_block ?_
         refine AWp_seq ?_
         refine AWp_drawL #[0, 1, 0, 7, 15, 31, 0, 64, 0, 448, 960, 1984, 4095, 8191] Tryz.mixed (by decide +kernel) (by decide +kernel) ?_
         refine zd1 ?_
         refine zp1 ?_
         refine zd1 ?_
         refine yA rfl rfl (fun _ => op_indexAddr rfl Tryz.underlying26 Tryz.sizeOf64 rfl rfl (by omega) (mcells_get hu)) ?_
         refine zd1 ?_
         rw [vcells_eq u.2]
         refine zp1 ?_
         refine zd1 ?_
         refine zp1 ?_
         refine zd1 ?_
         refine yA rfl rfl (fun _ => op_indexAddr rfl Tryz.underlying26 Tryz.sizeOf64 rfl rfl (by omega) (mcells_get hw)) ?_
         refine zd1 ?_
         rw [vcells_eq w.2]
         refine zp1 ?_
         refine yP rfl rfl (zc rfl (AC2 (vcells_eq u.2) (vcells_eq w.2) (ih u.2 w.2 _ (by omega) (mb_get hb6 hu).2 (mb_get hc6 hw).2))) (trivial) ?_
         refine zd1 ?_
         refine RP.nil rfl ?_
         refine AWp_seq ?_
         refine AWp_drawL #[0, 1, 3, 7, 15, 7, 63, 127, 255, 7, 519, 7, 3591, 7687, 15879, 32767, 65535] Tryz.mixed (by decide +kernel) (by decide +kernel) ?_
         refine zd3 ?_
         refine zspr 95 rfl (fun h10 => ?_) fun h10 => ?_
         ·rw [h10]; replace h10 := zcl h10
          refine zd10 ?_
          refine zd4 ?_
          refine RP.nil rfl ?_
          refine AWp_condT rfl ?_
          refine zw1 ?_
          refine zrt ?_
          refine ResQ_1 rfl hcl trivial (Ret_of (bool_f fun e => ?_))
          rw [e] at hu; rw [hu] at hw; cases hw; rw [pb_t rfl] at h10; cases h10
         ·rw [h10]; replace h10 := zcl h10
          refine zd1 ?_
          refine zp1 ?_
          refine zd1 ?_
          refine yAG rfl rfl rfl (fun _ => op_indexAddr rfl Tryz.underlying26 Tryz.sizeOf64 rfl rfl (by omega) (mcells_get hu)) ?_
          refine zd1 ?_
          refine zp1 ?_
          refine zd1 ?_
          refine zp1 ?_
          refine zd1 ?_
          refine yAG rfl rfl rfl (fun _ => op_indexAddr rfl Tryz.underlying26 Tryz.sizeOf64 rfl rfl (by omega) (mcells_get hw)) ?_
          refine zd1 ?_
          refine zp1 ?_
          refine zd2 ?_
          refine RP.nil rfl ?_
          refine AWp_cond rfl (fun h11 => ?_) (fun h11 => ?_)
          ·(try rw [h11]); replace h11 := zcl h11
           refine zw1 ?_
           refine zrt ?_
           refine ResQ_1 rfl hcl trivial (Ret_of (bool_f fun e => ?_))
           rw [e] at hu; rw [hu] at hw; cases hw; exact h11 rfl
          ·(try rw [h11]); replace h11 := zcl h11
           refine AWp_skip ?_
           refine AWp_regL ?_
           refine zv3 ?_
           have huw := (pb_iff _).1 h10
           refine ⟨i + 1, σ.length + 2, ⟨by omega, fun j hj => ?_⟩, by omega, by simp, ⟨rfl, rfl, rfl, rfl, trivial⟩, closed_own 2 hcl ?_, ?_, take_own 2⟩
           ·by_cases e : j = i
            ·subst e; rw [hu, hw, Prod.ext h11 huw]
            ·exact hi4 j (by omega)
           ·simp [ownLt, AO.cells, AV.ltL, AV.lt]
           ·simp [ltE, AV.lt]
        ·(try rw [h9]); replace h9 := zcl h9
         have hM : x.m = y.m := list_eq_of hlen2 fun j hj => hi4 j (by omega)
         refine AWp_exit ?_
         refine zw1 ?_
         refine zrt ?_
         refine ResQ_1 rfl hcl trivial (Ret_of (bool_t ((jv_ext x y).2 ?_)))
         simp_all
end Lg
set_option maxRecDepth 20000
set_option maxHeartbeats 4000000
namespace Go.Proofs
open Go.Shelf
def Tryz.lays160_ren : Go.Shelf.Ren := ⟨fun | 160 => 66 | 232 => 100 | 231 => 99 | 227 => 101 | 234 => 103 | 233 => 102 | 236 => 105 | 235 => 104 | 228 => 132 | 271 => 135 | 151 => 134 | 197 => 133 | 120 => 166 | 152 => 165 | 260 => 164 | 137 => 146 | 119 => 178 | 224 => 179 | 225 => 180 | 217 => 170 | 266 => 183 | n => n, fun | 9 => 9 | 4 => 4 | 3 => 3 | 5 => 5 | 117 => 143 | 116 => 142 | 0 => 0 | 124 => 146 | 21 => 21 | 105 => 174 | 46 => 148 | 119 => 212 | 139 => 215 | 138 => 214 | n => n, fun | 3 => 3 | 4 => 4 | n => n⟩
theorem Tryz.lays160 : Go.Proofs.Lays.n160 Tryz.prog Tryz.lays160_ren := {
  mixed := by kernel_rfl, f119 := Tryz.func178.trans (congrArg some (by kernel_rfl)), f120 := Tryz.func166.trans (congrArg some (by kernel_rfl)), f137 := Tryz.func146.trans (congrArg some (by kernel_rfl)), f151 := Tryz.func134.trans (congrArg some (by kernel_rfl)), f152 := Tryz.func165.trans (congrArg some (by kernel_rfl)), f160 := Tryz.func66.trans (congrArg some (by kernel_rfl)), f197 := Tryz.func133.trans (congrArg some (by kernel_rfl)), f217 := Tryz.func170.trans (congrArg some (by kernel_rfl)), f224 := Tryz.func179.trans (congrArg some (by kernel_rfl)), f225 := Tryz.func180.trans (congrArg some (by kernel_rfl)), f227 := Tryz.func101.trans (congrArg some (by kernel_rfl)), f228 := Tryz.func132.trans (congrArg some (by kernel_rfl)), f231 := Tryz.func99.trans (congrArg some (by kernel_rfl)), f232 := Tryz.func100.trans (congrArg some (by kernel_rfl)), f233 := Tryz.func102.trans (congrArg some (by kernel_rfl)), f234 := Tryz.func103.trans (congrArg some (by kernel_rfl)), f235 := Tryz.func104.trans (congrArg some (by kernel_rfl)), f236 := Tryz.func105.trans (congrArg some (by kernel_rfl)), f260 := Tryz.func164.trans (congrArg some (by kernel_rfl)), f266 := Tryz.func183.trans (congrArg some (by kernel_rfl)), f271 := Tryz.func135.trans (congrArg some (by kernel_rfl)), t0 := Tryz.underlying0, a0 := Tryz.isAgg0, z0 := Tryz.sizeOf0, v0 := Tryz.zeroValue0, t3 := Tryz.underlying3, a3 := Tryz.isAgg3, z3 := Tryz.sizeOf3, v3 := Tryz.zeroValue3, t4 := Tryz.underlying4, a4 := Tryz.isAgg4, z4 := Tryz.sizeOf4, v4 := Tryz.zeroValue4, t5 := Tryz.underlying5, a5 := Tryz.isAgg5, z5 := Tryz.sizeOf5, v5 := Tryz.zeroValue5, t9 := Tryz.underlying9, a9 := Tryz.isAgg9, z9 := Tryz.sizeOf9, v9 := Tryz.zeroValue9, t21 := Tryz.underlying21, a21 := Tryz.isAgg21, z21 := Tryz.sizeOf21, v21 := Tryz.zeroValue21, t46 := Tryz.underlying148, a46 := Tryz.isAgg148, z46 := Tryz.sizeOf148, v46 := Tryz.zeroValue148, t105 := Tryz.underlying174, a105 := Tryz.isAgg174, z105 := Tryz.sizeOf174, v105 := Tryz.zeroValue174, t116 := Tryz.underlying142, a116 := Tryz.isAgg142, z116 := Tryz.sizeOf142, t117 := Tryz.underlying143, a117 := Tryz.isAgg143, z117 := Tryz.sizeOf143, v117 := Tryz.zeroValue143, t119 := Tryz.underlying212, a119 := Tryz.isAgg212, z119 := Tryz.sizeOf212, t124 := Tryz.underlying146, a124 := Tryz.isAgg146, z124 := Tryz.sizeOf146, v124 := Tryz.zeroValue146, t138 := Tryz.underlying214, a138 := Tryz.isAgg214, z138 := Tryz.sizeOf214, v138 := Tryz.zeroValue214, t139 := Tryz.underlying215, a139 := Tryz.isAgg215, z139 := Tryz.sizeOf215, v139 := Tryz.zeroValue215, g3 := by kernel_rfl, g4 := by kernel_rfl }
def Tryz.lays172_ren : Go.Shelf.Ren := ⟨fun | 172 => 67 | 244 => 106 | 245 => 107 | 247 => 136 | 279 => 137 | 280 => 138 | 281 => 139 | 282 => 140 | 287 => 167 | 316 => 168 | 171 => 130 | 205 => 169 | 321 => 181 | 322 => 182 | 243 => 163 | 246 => 177 | 283 => 201 | 284 => 202 | 285 => 203 | 286 => 204 | 129 => 195 | 317 => 214 | 318 => 215 | 319 => 216 | 320 => 217 | 337 => 222 | 338 => 223 | n => n, fun | 9 => 9 | 3 => 3 | 75 => 35 | 76 => 109 | 4 => 4 | 5 => 5 | 167 => 177 | 37 => 102 | 0 => 0 | 85 => 178 | 2 => 2 | 168 => 180 | 53 => 197 | 175 => 198 | 46 => 148 | 210 => 201 | 127 => 139 | 145 => 221 | 143 => 219 | 21 => 21 | 171 => 239 | 173 => 241 | 212 => 250 | 51 => 234 | 20 => 20 | 213 => 251 | 232 => 258 | 233 => 259 | 80 => 106 | n => n, fun | 15 => 1 | 16 => 2 | 17 => 6 | 18 => 7 | 19 => 8 | n => n⟩
theorem Tryz.lays172 : Go.Proofs.Lays.n172 Tryz.prog Tryz.lays172_ren := {
  mixed := by kernel_rfl, f129 := Tryz.func195.trans (congrArg some (by kernel_rfl)), f171 := Tryz.func130.trans (congrArg some (by kernel_rfl)), f172 := Tryz.func67.trans (congrArg some (by kernel_rfl)), f205 := Tryz.func169.trans (congrArg some (by kernel_rfl)), f243 := Tryz.func163.trans (congrArg some (by kernel_rfl)), f244 := Tryz.func106.trans (congrArg some (by kernel_rfl)), f245 := Tryz.func107.trans (congrArg some (by kernel_rfl)), f246 := Tryz.func177.trans (congrArg some (by kernel_rfl)), f247 := Tryz.func136.trans (congrArg some (by kernel_rfl)), f279 := Tryz.func137.trans (congrArg some (by kernel_rfl)), f280 := Tryz.func138.trans (congrArg some (by kernel_rfl)), f281 := Tryz.func139.trans (congrArg some (by kernel_rfl)), f282 := Tryz.func140.trans (congrArg some (by kernel_rfl)), f283 := Tryz.func201.trans (congrArg some (by kernel_rfl)), f284 := Tryz.func202.trans (congrArg some (by kernel_rfl)), f285 := Tryz.func203.trans (congrArg some (by kernel_rfl)), f286 := Tryz.func204.trans (congrArg some (by kernel_rfl)), f287 := Tryz.func167.trans (congrArg some (by kernel_rfl)), f316 := Tryz.func168.trans (congrArg some (by kernel_rfl)), f317 := Tryz.func214.trans (congrArg some (by kernel_rfl)), f318 := Tryz.func215.trans (congrArg some (by kernel_rfl)), f319 := Tryz.func216.trans (congrArg some (by kernel_rfl)), f320 := Tryz.func217.trans (congrArg some (by kernel_rfl)), f321 := Tryz.func181.trans (congrArg some (by kernel_rfl)), f322 := Tryz.func182.trans (congrArg some (by kernel_rfl)), f337 := Tryz.func222.trans (congrArg some (by kernel_rfl)), f338 := Tryz.func223.trans (congrArg some (by kernel_rfl)), t0 := Tryz.underlying0, a0 := Tryz.isAgg0, z0 := Tryz.sizeOf0, v0 := Tryz.zeroValue0, t2 := Tryz.underlying2, a2 := Tryz.isAgg2, z2 := Tryz.sizeOf2, v2 := Tryz.zeroValue2, t3 := Tryz.underlying3, a3 := Tryz.isAgg3, z3 := Tryz.sizeOf3, v3 := Tryz.zeroValue3, t4 := Tryz.underlying4, a4 := Tryz.isAgg4, z4 := Tryz.sizeOf4, v4 := Tryz.zeroValue4, t5 := Tryz.underlying5, a5 := Tryz.isAgg5, z5 := Tryz.sizeOf5, v5 := Tryz.zeroValue5, t9 := Tryz.underlying9, a9 := Tryz.isAgg9, z9 := Tryz.sizeOf9, v9 := Tryz.zeroValue9, t20 := Tryz.underlying20, a20 := Tryz.isAgg20, z20 := Tryz.sizeOf20, v20 := Tryz.zeroValue20, t21 := Tryz.underlying21, a21 := Tryz.isAgg21, z21 := Tryz.sizeOf21, v21 := Tryz.zeroValue21, t37 := Tryz.underlying102, a37 := Tryz.isAgg102, z37 := Tryz.sizeOf102, v37 := Tryz.zeroValue102, t46 := Tryz.underlying148, a46 := Tryz.isAgg148, z46 := Tryz.sizeOf148, v46 := Tryz.zeroValue148, t51 := Tryz.underlying234, a51 := Tryz.isAgg234, z51 := Tryz.sizeOf234, v51 := Tryz.zeroValue234, t53 := Tryz.underlying197, a53 := Tryz.isAgg197, z53 := Tryz.sizeOf197, v53 := Tryz.zeroValue197, t75 := Tryz.underlying35, a75 := Tryz.isAgg35, z75 := Tryz.sizeOf35, v75 := Tryz.zeroValue35, t76 := Tryz.underlying109, a76 := Tryz.isAgg109, z76 := Tryz.sizeOf109, v76 := Tryz.zeroValue109, t85 := Tryz.underlying178, a85 := Tryz.isAgg178, z85 := Tryz.sizeOf178, v85 := Tryz.zeroValue178, t127 := Tryz.underlying139, a127 := Tryz.isAgg139, z127 := Tryz.sizeOf139, v127 := Tryz.zeroValue139, t143 := Tryz.underlying219, a143 := Tryz.isAgg219, z143 := Tryz.sizeOf219, v143 := Tryz.zeroValue219, t145 := Tryz.underlying221, a145 := Tryz.isAgg221, z145 := Tryz.sizeOf221, v145 := Tryz.zeroValue221, t167 := Tryz.underlying177, a167 := Tryz.isAgg177, z167 := Tryz.sizeOf177, v167 := Tryz.zeroValue177, t168 := Tryz.underlying180, a168 := Tryz.isAgg180, z168 := Tryz.sizeOf180, v168 := Tryz.zeroValue180, t171 := Tryz.underlying239, a171 := Tryz.isAgg239, z171 := Tryz.sizeOf239, v171 := Tryz.zeroValue239, t173 := Tryz.underlying241, a173 := Tryz.isAgg241, z173 := Tryz.sizeOf241, v173 := Tryz.zeroValue241, t175 := Tryz.underlying198, a175 := Tryz.isAgg198, z175 := Tryz.sizeOf198, v175 := Tryz.zeroValue198, t210 := Tryz.underlying201, a210 := Tryz.isAgg201, z210 := Tryz.sizeOf201, v210 := Tryz.zeroValue201, t212 := Tryz.underlying250, a212 := Tryz.isAgg250, z212 := Tryz.sizeOf250, v212 := Tryz.zeroValue250, t213 := Tryz.underlying251, a213 := Tryz.isAgg251, z213 := Tryz.sizeOf251, t232 := Tryz.underlying258, a232 := Tryz.isAgg258, z232 := Tryz.sizeOf258, v232 := Tryz.zeroValue258, t233 := Tryz.underlying259, a233 := Tryz.isAgg259, z233 := Tryz.sizeOf259, v233 := Tryz.zeroValue259, g15 := by kernel_rfl, g16 := by kernel_rfl, g17 := by kernel_rfl, g18 := by kernel_rfl, g19 := by kernel_rfl }
end Go.Proofs
namespace Lg
open Go Go.Proofs Go.RowKit
variable [GLay]
theorem trimD_c (s : ByteArray) (σ : List AO) (hs : s.size ≤ 1000000) : ACalls Tryz.prog 66 [.str s, .str ⟨#[48, 49, 50, 51, 52, 53, 54, 55, 56, 57]⟩] σ (Ret (.str ⟨(Lib.trimS s.data.toList dgs).toArray⟩) σ) :=
  ACalls_below fun st cargs g hp => by
    obtain ⟨q, qs, rfl, h1, h2⟩ := hp.inv_cons
    obtain ⟨q2, qs2, rfl, h3, h4⟩ := h2.inv_cons
    obtain rfl := h4.inv_nil
    obtain rfl := h1.inv_str
    obtain rfl := h3.inv_str
    exact ⟨_, fun _ => .str _, Any.strings_Trim_laid Tryz.lays160 (by kernel_rfl) s ⟨#[48, 49, 50, 51, 52, 53, 54, 55, 56, 57]⟩ st.w (by omega) (by decide) (ascii_of_all (by decide))⟩
theorem PW.str1' {s : CS} {b : ByteArray} {vs : List Value} (h : PW s [.str b] vs) : vs = [.string b] := by
  obtain ⟨h1, h2⟩ := h
  match vs, h1 with
  | [v], _ => rw [(h2 0 (.str b) v rfl rfl).inv_str]
theorem atoi_c (s : ByteArray) (n : Int) (σ : List AO) (hs : s.size ≤ 18) (h : Go.Lib.atoi s.data.toList = some n) : ACalls Tryz.prog 67 [.str s] σ (Ret (.tup [.int .i64 n, .nili]) σ) :=
  ACalls_below fun st cargs g hp => by
    rw [hp.str1']
    refine ⟨.tuple #[.int .i64 n, .nilIface], fun _ => ?_, (Any.strconv_Atoi Tryz.lays172 s n hs h st.w).mono ?_⟩
    rotate_left
    · rintro e w' ⟨rfl, t, rfl⟩
      exact ⟨rfl, rfl, rfl, rfl, by rw [Go.Lib.bytesWorld_size]; omega, fun j hj => Go.Lib.bytesWorld_at_old st.w _ t j hj⟩
    · exact .tup [.int .i64 n, .nili] [.int .i64 n, .nilIface] rfl (fun i c v h1 h2 => by
        match i, h1, h2 with
        | 0, h1, h2 => cases h1; cases h2; exact .int _ _
        | 1, h1, h2 => cases h1; cases h2; exact .nili)
end Lg
set_option maxRecDepth 20000
set_option maxHeartbeats 4000000
namespace Lg
open Go Go.Proofs Go.RowKit
variable [GLay] 
theorem trimN_c (nm : BL) (σ : List AO) (hs : nm.length ≤ 1000000) : ACalls Tryz.prog 66 [.str (ba nm), .str ⟨#[48, 49, 50, 51, 52, 53, 54, 55, 56, 57]⟩] σ (Ret (.str (trE nm)) σ) := by
  have h := trimD_c (ba nm) σ (by rw [ba_size]; exact hs)
  rw [ba_toList] at h; exact h
theorem pidx_c (nm : BL) (n : Nat) (e : Bool) (σ : List AO) (hs : nm.length ≤ 1000000) (hn : n ≤ 1000000000) : ACalls Tryz.prog 37 [.str (ba nm), .int .i64 (n : Int), .bool e] σ (Ret (.tup [.int .i64 (jixN nm n e), .bool (jixO nm n e)]) σ) := by
 refine ACalls_body Tryz.func37 rfl Tryz.ntmps37 (res2 Tryz.results37) (Nat.le_of_ble_eq_true rfl) (fun hcl hal => ?_)
 have hbs := ba_size nm
 refine zw2 ?_
 refine AWp_join (ι := Unit) (fun b => ¬ (e = true ∧ nm = [45])) (fun b => ⟨[], [(0, .str (ba nm)), (1, .int .i64 (n : Int)), (2, .bool e), (6, .int .i64 0), (7, .bool false)]⟩) (fun b => σ) ?_ (fun b hj => ?_)
 ·skip
  refine zu2 ?_
  refine zsp 11 rfl (fun h1 => ?_) fun h1 => ?_
  ·rw [h1]; replace h1 := zcl h1
   refine zv3 ?_
   refine AWp_cond rfl (fun h2 => ?_) (fun h2 => ?_)
   ·(try rw [h2]); replace h2 := zcl h2
    refine zw3 ?_
    refine zrt ?_
    obtain ⟨q1, q2⟩ := jix_minus (n := n) (e := true) rfl (ba_minus ▸ h2)
    rw [q1, q2]
    exact ResQ_20 rfl rfl hcl (by simp [AV.lt, AV.ltL]) (Ret_of rfl)
   ·(try rw [h2]); replace h2 := zcl h2
    refine AWp_skip ?_
    exact ⟨(), (fun x => h2 (ba_minus ▸ x.2)), ⟨rfl, rfl, rfl, rfl, rfl, rfl, trivial⟩, rfl⟩
  ·rw [h1]; replace h1 := zcl h1
   refine zv3 ?_
   refine AWp_condF rfl ?_
   refine AWp_skip ?_
   exact ⟨(), (fun x => by cases x.1), ⟨rfl, rfl, rfl, rfl, rfl, rfl, trivial⟩, rfl⟩
 ·skip
  have hj0 := hj
  clear hj
  refine AWp_seq ?_
  refine AWp_join (ι := Bool) (fun b => b = decide (jixB nm)) (fun b => ⟨[], [(0, .str (ba nm)), (1, .int .i64 (n : Int)), (2, .bool e), (6, .int .i64 0), (7, .bool false), (37, .bool b)]⟩) (fun b => σ) ?_ (fun b hj => ?_)
  ·skip
   refine AWp_regL ?_
   refine zg3 ?_
   refine zsp 18 rfl (fun h3 => ?_) fun h3 => ?_
   ·rw [h3]; replace h3 := zcl h3
    refine zg10 ?_
    refine zg9 ?_
    refine zon ?_
    refine ⟨_, ?_, ⟨rfl, rfl, rfl, rfl, rfl, rfl, rfl, trivial⟩, rfl⟩
    (try rw [ba_nil0, ← List.length_eq_zero_iff] at h3)
    (try rw [show ((0 : Int).toNat) = 0 from rfl] at *)
    by_cases hx : runl (ba nm) 0 = nm.length
    ·have hy := trE_iff.2 hx
     (try simp only [hy, decide_true, Bool.not_true, ne_eq, not_true, decide_false])
     first | exact (decide_eq_true (jixB_len.2 (by omega))).symm | exact (decide_eq_false (fun x => by have := jixB_len.1 x; omega)).symm
    ·have hy : ¬ trE nm = ⟨#[]⟩ := fun z => hx (trE_iff.1 z)
     (try simp only [hy, decide_false, Bool.not_false, ne_eq, not_false_iff, decide_true])
     first | exact (decide_eq_true (jixB_len.2 (by omega))).symm | exact (decide_eq_false (fun x => by have := jixB_len.1 x; omega)).symm
   ·rw [h3]; replace h3 := zcl h3
    refine zg5 ?_
    refine zsp 23 rfl (fun h4 => ?_) fun h4 => ?_
    ·rw [h4]; replace h4 := zcl h4
     refine zg10 ?_
     refine zg4 ?_
     refine zon ?_
     refine ⟨_, ?_, ⟨rfl, rfl, rfl, rfl, rfl, rfl, rfl, trivial⟩, rfl⟩
     (try rw [ba_nil0, ← List.length_eq_zero_iff] at h3)
     (try rw [show ((0 : Int).toNat) = 0 from rfl] at *)
     by_cases hx : runl (ba nm) 0 = nm.length
     ·have hy := trE_iff.2 hx
      (try simp only [hy, decide_true, Bool.not_true, ne_eq, not_true, decide_false])
      first | exact (decide_eq_true (jixB_len.2 (by omega))).symm | exact (decide_eq_false (fun x => by have := jixB_len.1 x; omega)).symm
     ·have hy : ¬ trE nm = ⟨#[]⟩ := fun z => hx (trE_iff.1 z)
      (try simp only [hy, decide_false, Bool.not_false, ne_eq, not_false_iff, decide_true])
      first | exact (decide_eq_true (jixB_len.2 (by omega))).symm | exact (decide_eq_false (fun x => by have := jixB_len.1 x; omega)).symm
    ·rw [h4]; replace h4 := zcl h4
     refine zg4 ?_
     refine zsp 27 rfl (fun h5 => ?_) fun h5 => ?_
     ·rw [h5]; replace h5 := zcl h5
      refine zg6 ?_
      refine zsp 33 rfl (fun h6 => ?_) fun h6 => ?_
      ·rw [h6]; replace h6 := zcl h6
       refine zv4 ?_
       refine ⟨_, ?_, ⟨rfl, rfl, rfl, rfl, rfl, rfl, rfl, trivial⟩, rfl⟩
       (try rw [ba_nil0, ← List.length_eq_zero_iff] at h3)
       (try rw [show ((0 : Int).toNat) = 0 from rfl] at *)
       by_cases hx : runl (ba nm) 0 = nm.length
       ·have hy := trE_iff.2 hx
        (try simp only [hy, decide_true, Bool.not_true, ne_eq, not_true, decide_false])
        first | exact (decide_eq_true (jixB_len.2 (by omega))).symm | exact (decide_eq_false (fun x => by have := jixB_len.1 x; omega)).symm
       ·have hy : ¬ trE nm = ⟨#[]⟩ := fun z => hx (trE_iff.1 z)
        (try simp only [hy, decide_false, Bool.not_false, ne_eq, not_false_iff, decide_true])
        first | exact (decide_eq_true (jixB_len.2 (by omega))).symm | exact (decide_eq_false (fun x => by have := jixB_len.1 x; omega)).symm
      ·rw [h6]; replace h6 := zcl h6
       refine zg1 ?_
       refine ztG rfl rfl (zc rfl (trimN_c nm _ hs)) ?_
       refine zv2 ?_
       refine ⟨_, ?_, ⟨rfl, rfl, rfl, rfl, rfl, rfl, rfl, trivial⟩, rfl⟩
       (try rw [ba_nil0, ← List.length_eq_zero_iff] at h3)
       (try rw [show ((0 : Int).toNat) = 0 from rfl] at *)
       by_cases hx : runl (ba nm) 0 = nm.length
       ·have hy := trE_iff.2 hx
        (try simp only [hy, decide_true, Bool.not_true, ne_eq, not_true, decide_false])
        first | exact (decide_eq_true (jixB_len.2 (by omega))).symm | exact (decide_eq_false (fun x => by have := jixB_len.1 x; omega)).symm
       ·have hy : ¬ trE nm = ⟨#[]⟩ := fun z => hx (trE_iff.1 z)
        (try simp only [hy, decide_false, Bool.not_false, ne_eq, not_false_iff, decide_true])
        first | exact (decide_eq_true (jixB_len.2 (by omega))).symm | exact (decide_eq_false (fun x => by have := jixB_len.1 x; omega)).symm
     ·rw [h5]; replace h5 := zcl h5
      refine zg7 ?_
      refine ztG rfl rfl (zc rfl (trimN_c nm _ hs)) ?_
      refine zv2 ?_
      refine ⟨_, ?_, ⟨rfl, rfl, rfl, rfl, rfl, rfl, rfl, trivial⟩, rfl⟩
      (try rw [ba_nil0, ← List.length_eq_zero_iff] at h3)
      (try rw [show ((0 : Int).toNat) = 0 from rfl] at *)
      by_cases hx : runl (ba nm) 0 = nm.length
      ·have hy := trE_iff.2 hx
       (try simp only [hy, decide_true, Bool.not_true, ne_eq, not_true, decide_false])
       first | exact (decide_eq_true (jixB_len.2 (by omega))).symm | exact (decide_eq_false (fun x => by have := jixB_len.1 x; omega)).symm
      ·have hy : ¬ trE nm = ⟨#[]⟩ := fun z => hx (trE_iff.1 z)
       (try simp only [hy, decide_false, Bool.not_false, ne_eq, not_false_iff, decide_true])
       first | exact (decide_eq_true (jixB_len.2 (by omega))).symm | exact (decide_eq_false (fun x => by have := jixB_len.1 x; omega)).symm
  ·skip
   subst hj
   refine AWp_cond rfl (fun h7 => ?_) (fun h7 => ?_)
   ·(try rw [h7]); replace h7 := zcl h7
    refine zw2 ?_
    refine zrt ?_
    obtain ⟨q1, q2⟩ := jix_bad (n := n) hj0 (by simpa using h7)
    rw [q1, q2]
    exact ResQ_20 rfl rfl hcl (by simp [AV.lt, AV.ltL]) (Ret_of rfl)
   ·(try rw [h7]); replace h7 := zcl h7
    have hb : ¬ jixB nm := by simpa using h7
    obtain ⟨hd, hl0, hl18⟩ := jixB_aD hb
    have hv0 := valL_bd hd
    refine AWp_skip ?_
    refine zu1 ?_
    refine zt rfl (zc rfl (atoi_c (ba nm) (valL 0 nm) _ (by omega) (by rw [ba_toList]; exact atoi_dig hd hl0))) ?_
    refine zv5 ?_
    refine AWp_seq ?_
    refine zu8 ?_
    refine zsp 50 rfl (fun h8 => ?_) fun h8 => ?_
    ·rw [h8]; replace h8 := zcl h8
     refine zv8 ?_
     refine AWp_condT rfl ?_
     refine zw2 ?_
     refine zrt ?_
     obtain ⟨q1, q2⟩ := jix_big (n := n) (e := e) hj0 hb (fun x => x.elim (by omega) (fun y => by have := y.1; omega))
     rw [q1, q2]
     exact ResQ_20 rfl rfl hcl (by simp [AV.lt, AV.ltL]) (Ret_of rfl)
    ·rw [h8]; replace h8 := zcl h8
     refine zg4 ?_
     refine zsp 54 rfl (fun h9 => ?_) fun h9 => ?_
     ·rw [h9]; replace h9 := zcl h9
      refine zv4 ?_
      refine AWp_cond rfl (fun h10 => ?_) (fun h10 => ?_)
      ·(try rw [h10]); replace h10 := zcl h10
       refine zw2 ?_
       refine zrt ?_
       have he : e = false := by simpa using h10
       subst he
       obtain ⟨q1, q2⟩ := jix_big (n := n) hj0 hb (fun x => x.elim (by omega) (fun y => by cases y.2))
       rw [q1, q2]
       exact ResQ_20 rfl rfl hcl (by simp [AV.lt, AV.ltL]) (Ret_of rfl)
      ·(try rw [h10]); replace h10 := zcl h10
       refine AWp_skip ?_
       refine zw3 ?_
       refine zrt ?_
       have he : e = true := by simpa using h10
       subst he
       obtain ⟨q1, q2⟩ := jix_val (n := n) hj0 hb hv0.1 (.inr ⟨h9, rfl⟩)
       rw [q1, q2]
       exact ResQ_20 rfl rfl hcl (by simp [AV.lt, AV.ltL]) (Ret_of rfl)
     ·rw [h9]; replace h9 := zcl h9
      refine zv4 ?_
      refine AWp_condF rfl ?_
      refine AWp_skip ?_
      refine zw3 ?_
      refine zrt ?_
      obtain ⟨q1, q2⟩ := jix_val (n := n) hj0 hb hv0.1 (.inl (by omega))
      rw [q1, q2]
      exact ResQ_20 rfl rfl hcl (by simp [AV.lt, AV.ltL]) (Ret_of rfl)

end Lg
set_option maxRecDepth 20000
set_option maxHeartbeats 4000000
namespace Lg
open Go Go.Proofs Go.RowKit
variable [GLay] 
theorem rget_0 (f : Bool) (v : JV) (cs : List AV) (σ : List AO) (hc : vcells v = cs) : ACalls Tryz.prog 20 [.agg cs, .sl f 1 (srow [])] σ (Ret (.tup [.agg (vcells (jget [] v).1), .bool (jget [] v).2]) σ) := by
 refine ACalls_bodyC Tryz.func20 rfl Tryz.ntmps20 (by rw [Tryz.results20]; exact (.ck Tryz.isAgg28 Tryz.sizeOf28 (.t .nil))) (Nat.le_of_ble_eq_true rfl) (fun hcl hal => ?_)
 subst hc
 rw [vcells_eq v]
 refine zw3 ?_
 refine AWp_seq ?_
 refine zu2 ?_
 refine zt rfl (op_eqlT rfl rfl rfl rfl) ?_
 refine zon ?_
 refine AWp_condT rfl ?_
 refine zw3 ?_
 refine zrt ?_
 rw [jget, vcells_eq v]
 exact RQ_ret (rkvs_cons (rkv_ck rfl rfl rfl) (rkvs_cons (rkv_t rfl) rfl)) hcl (by simp [rks, AV.lt, AV.ltL]) ⟨rfl, rfl⟩

theorem rget_1 (r : List BL) (ih : ∀ (v : JV) (cs : List AV) (es : List (List AV)) (σ : List AO), vcells v = cs → es = srow r → jb v → ACalls Tryz.prog 20 [.agg cs, .sl false 1 es] σ (Ret (.tup [.agg (vcells (jget r v).1), .bool (jget r v).2]) σ)) (f : Bool) (nm : BL) (v : JV) (cs : List AV) (σ : List AO) (hc : vcells v = cs) (hjb : jb v) (hnm : nm.length ≤ 1000000) : ACalls Tryz.prog 20 [.agg cs, .sl f 1 (srow (nm :: r))] σ (Ret (.tup [.agg (vcells (jget (nm :: r) v).1), .bool (jget (nm :: r) v).2]) σ) := by
 obtain ⟨hb1, hb2, hb3, hb4, hb5, hb6⟩ := (jb_eq v).1 hjb
 have hll := lcells_length v.l
 have hix : ∀ (nm : BL) (τ : List AO), nm.length ≤ 1000000 → ACalls Tryz.prog 47 [.str (ba nm), .int .i64 ((lcells v.l).length : Int), .bool false] τ (Ret (.tup [.int .i64 (jixN nm v.l.length false), .bool (jixO nm v.l.length false)]) τ) := by
  intro nm τ hm; rw [hll]; exact ridx_c nm v.l.length false τ hm (by omega)
 refine ACalls_bodyC Tryz.func20 rfl Tryz.ntmps20 (by rw [Tryz.results20]; exact (.ck Tryz.isAgg28 Tryz.sizeOf28 (.t .nil))) (Nat.le_of_ble_eq_true rfl) (fun hcl hal => ?_)
 subst hc
 rw [vcells_eq v]
 have hsl : 1 ≤ (srow (nm :: r)).length := by rw [srow_len, List.length_cons]; omega
 refine zw3 ?_
 refine AWp_seq ?_
 refine zu2 ?_
 refine zt rfl (op_eqlF rfl rfl rfl (by rw [srow_len, List.length_cons]; omega)) ?_
 refine zon ?_
 refine AWp_condF rfl ?_
 refine AWp_skip ?_
 refine AWp_seq ?_
 refine zw3 ?_
 refine AWp_cond rfl (fun h1 => ?_) (fun h1 => ?_)
 ·(try rw [h1]); replace h1 := zcl h1
  refine AWp_seq ?_
  refine AWp_drawL #[0, 1, 3, 0, 8, 24, 63, 127, 255, 255, 511, 2047] Tryz.mixed (by decide +kernel) (by decide +kernel) ?_
  refine zd1 ?_
  refine yA rfl rfl (fun _ => op_indexAddr rfl Tryz.underlying31 Tryz.sizeOf9 rfl rfl (by omega) (rfl)) ?_
  refine zp1 ?_
  refine zd1 ?_
  refine zp1 ?_
  refine zd1 ?_
  refine yP rfl rfl (zc rfl (hix nm _ hnm)) (trivial) ?_
  refine zd5 ?_
  refine RP.nil rfl ?_
  refine AWp_seq ?_
  refine zw2 ?_
  refine AWp_cond rfl (fun h2 => ?_) (fun h2 => ?_)
  ·(try rw [h2]); replace h2 := zcl h2
   refine zw3 ?_
   refine AWp_boxLeO 1 (bs' := [.int .i64 vz.kind, .bool vz.b, .bool vz.n.neg, .str vz.n.digits, .int .i64 vz.n.exp, .str vz.s, .sl false 8 (lcells vz.l), .sl false 9 (mcells vz.m)]) rfl ⟨AVle.refl _, AVle.refl _, AVle.refl _, AVle.refl _, AVle.refl _, AVle.refl _, nilL, nilM, trivial⟩ ?_
   refine zrt ?_
   rw [jget_no4 h1 (by simpa using h2), vcells_eq]
   exact RQ_ret (rkvs_cons (rkv_ck rfl rfl rfl) (rkvs_cons (rkv_t rfl) rfl)) hcl (by simp [rks, AV.lt, AV.ltL]) ⟨rfl, rfl⟩
  ·(try rw [h2]); replace h2 := zcl h2
   obtain ⟨k, hk, hkl⟩ := jix_nat (nm := nm) (n := v.l.length) (by simpa using h2)
   obtain ⟨a, ha⟩ : ∃ a, v.l[k]? = some a := ⟨_, List.getElem?_eq_getElem hkl⟩
   rw [hk]
   refine AWp_skip ?_
   refine AWp_seq ?_
   refine AWp_drawL #[0, 1, 0, 7, 15, 0, 32, 127, 255, 255, 1023, 2047] Tryz.mixed (by decide +kernel) (by decide +kernel) ?_
   refine zd1 ?_
   refine zp1 ?_
   refine zd2 ?_
   rw [vcells_eq a]
   refine zp1 ?_
   refine zd1 ?_
   refine yA rfl rfl (fun _ => (by first | exact op_sliceSl _ _ rfl Tryz.underlying31 Tryz.sizeOf9 rfl (by first | exact ⟨_, rfl⟩ | rfl) (by first | exact ⟨_, rfl⟩ | rfl) (by omega) (by omega) (by omega) | exact op_sliceArr _ _ rfl Tryz.underlying31 Tryz.sizeOf9 rfl GET (by first | exact ⟨_, rfl⟩ | rfl) (by first | exact ⟨_, rfl⟩ | rfl) (by omega) (by omega) (by omega))) ?_
   refine yP rfl rfl (zc rfl (ih a _ _ _ (vcells_eq a) (srow_tail nm r) (lb_get hb5 ha))) (trivial) ?_
   rw [vcells_eq (jget r a).1]
   refine zd2 ?_
   refine yEN rfl rfl rfl (zoa) (⟨.inl rfl, ⟨.inl rfl, ⟨.inl rfl, trivial⟩⟩⟩) (trivial) ?_
   refine zd1 ?_
   refine RP.nil rfl ?_
   refine zrt ?_
   rw [jget_4 h1 (by simpa using h2) hk ha, vcells_eq]
   exact RQ_ret (rkvs_cons (rkv_ck rfl rfl rfl) (rkvs_cons (rkv_t rfl) rfl)) hcl (by simp [rks, AV.lt, AV.ltL]) ⟨rfl, rfl⟩
 ·(try rw [h1]); replace h1 := zcl h1
  refine AWp_skip ?_
  refine AWp_seq ?_
  refine AWp_drawL #[0, 0, 2, 6, 15, 31, 63, 63, 0, 383, 1023] Tryz.mixed (by decide +kernel) (by decide +kernel) ?_
  refine zp1 ?_
  refine zd1 ?_
  refine yA rfl rfl (fun _ => op_indexAddr rfl Tryz.underlying31 Tryz.sizeOf9 rfl rfl (by omega) (rfl)) ?_
  refine zp1 ?_
  refine yP rfl rfl (zc rfl (rfindQ_c v (ba nm) _ _ (vcells_eq v) hb4)) (trivial) ?_
  rw [vcells_eq (jfD v (ba nm))]
  refine zd3 ?_
  refine yE rfl rfl (zoa) (⟨.inr (by rw [← vcells_eq (jfD v (ba nm))]; exact zc rfl (rfindQ_c v (ba nm) _ _ (vcells_eq v) hb4)), ⟨.inr zoa, ⟨.inr zoa, trivial⟩⟩⟩) (trivial) ?_
  refine yEN rfl rfl rfl (zoa) (⟨.inl rfl, ⟨.inl rfl, ⟨.inl rfl, trivial⟩⟩⟩) (⟨rfl, trivial⟩) ?_
  refine zd1 ?_
  refine RP.nil rfl ?_
  refine AWp_seq ?_
  refine zw2 ?_
  refine AWp_cond rfl (fun h3 => ?_) (fun h3 => ?_)
  ·(try rw [h3]); replace h3 := zcl h3
   refine zw3 ?_
   refine AWp_boxLeO 1 (bs' := [.int .i64 vz.kind, .bool vz.b, .bool vz.n.neg, .str vz.n.digits, .int .i64 vz.n.exp, .str vz.s, .sl false 8 (lcells vz.l), .sl false 9 (mcells vz.m)]) rfl ⟨AVle.refl _, AVle.refl _, AVle.refl _, AVle.refl _, AVle.refl _, AVle.refl _, nilL, nilM, trivial⟩ ?_
   refine zrt ?_
   rw [jget_no5 h1 (by simpa using h3), vcells_eq]
   exact RQ_ret (rkvs_cons (rkv_ck rfl rfl rfl) (rkvs_cons (rkv_t rfl) rfl)) hcl (by simp [rks, AV.lt, AV.ltL]) ⟨rfl, rfl⟩
  ·(try rw [h3]); replace h3 := zcl h3
   refine AWp_skip ?_
   refine AWp_seq ?_
   refine AWp_drawL #[0, 0, 2, 7, 15, 15, 63, 127] Tryz.mixed (by decide +kernel) (by decide +kernel) ?_
   refine zp1 ?_
   refine zd1 ?_
   refine yA rfl rfl (fun _ => (by first | exact op_sliceSl _ _ rfl Tryz.underlying31 Tryz.sizeOf9 rfl (by first | exact ⟨_, rfl⟩ | rfl) (by first | exact ⟨_, rfl⟩ | rfl) (by omega) (by omega) (by omega) | exact op_sliceArr _ _ rfl Tryz.underlying31 Tryz.sizeOf9 rfl GET (by first | exact ⟨_, rfl⟩ | rfl) (by first | exact ⟨_, rfl⟩ | rfl) (by omega) (by omega) (by omega))) ?_
   refine yP rfl rfl (zc rfl (ih (jfD v (ba nm)) _ _ _ (vcells_eq _) (srow_tail nm r) (jfD_jb hjb))) (trivial) ?_
   rw [vcells_eq (jget r (jfD v (ba nm))).1]
   refine zd2 ?_
   refine yEN rfl rfl rfl (zoa) (⟨.inl rfl, ⟨.inl rfl, trivial⟩⟩) (trivial) ?_
   refine zd1 ?_
   refine RP.nil rfl ?_
   refine zrt ?_
   rw [jget_5 h1 (by simpa using h3), vcells_eq]
   exact RQ_ret (rkvs_cons (rkv_ck rfl rfl rfl) (rkvs_cons (rkv_t rfl) rfl)) hcl (by simp [rks, AV.lt, AV.ltL]) ⟨rfl, rfl⟩
end Lg
set_option maxRecDepth 20000
set_option maxHeartbeats 4000000
namespace Lg
open Go Go.Proofs Go.RowKit
variable [GLay] 
theorem cloneV_c (f : Bool) (rows : List (List AV)) (σ : List AO) (hel : ∀ r ∈ rows, r.length = 8) (hone : ones rows.flatten = true) (hlt : ∀ n, AV.ltL n rows.flatten) (hn : rows.length ≤ 1000000) : ACalls Tryz.prog 39 [.sl f 8 rows] σ (fun o σ' => o = .ret (.arr σ.length 0 8 0 rows.length) ∧ σ' = σ ++ [.arr 8 0 rows.flatten]) := by
 refine ACalls_body Tryz.func39 rfl Tryz.ntmps39 (res1 Tryz.results39) (Nat.le_of_ble_eq_true rfl) (fun hcl hal => ?_)
 refine zw1 ?_
 refine AWp_seq ?_
 refine zu1 ?_
 refine ztR rfl (op_eqSlR rfl Tryz.underlying25 rfl) (fun v1_1 s1_1 hr => ?_) (fun v1_1 s1_1 hr => ?_)
 rotate_left
 ·exact hr.elim
 obtain ⟨hs, b, rfl, hb⟩ := hr
 rw [hs]
 refine zon ?_
 refine AWp_cond rfl (fun h1 => ?_) (fun h1 => ?_)
 ·(try rw [h1]); replace h1 := zcl h1
  refine zw1 ?_
  have hnil := hb h1
  subst hnil
  refine AWp_ghostT 2 8 rfl ?_ (by decide)
  refine zrt ?_
  refine ResQ_K (v := .arr σ.length 0 8 0 0) (σ.length + 1) (by omega) rfl (closed_own 1 hcl ?_) (by simp [AV.lt]) ⟨rfl, take_own 1⟩
  simp [ownLt, AO.cells, AV.ltL]
 ·(try rw [h1]); replace h1 := zcl h1
  refine AWp_skip ?_
  refine zsr ?_
  refine zt rfl (op_buildSlice0 (sz := 8) rfl Tryz.underlying25 Tryz.sizeOf28) ?_
  refine zg1 ?_
  refine zt rfl (op_appendNew (sz := 8) (m := rows.length) (cs := rows.flatten) rfl (.inr ⟨_, rfl⟩) Tryz.underlying25 Tryz.underlying25 Tryz.type28 rfl rfl rfl (by decide) (.inr rfl) (by rfl) rfl hone (by show rows.length * 112 ≤ _; omega) (by omega) (flatten_len hel)) ?_
  refine zv1 ?_
  refine zrt ?_
  refine ResQ_K (v := .arr σ.length 0 8 0 rows.length) (σ.length + 1) (by omega) rfl (closed_own 1 hcl ?_) (by simp [AV.lt]) ⟨rfl, take_own 1⟩
  simp [ownLt, AO.cells, AV.ltL]; exact hlt _

theorem cloneM_c (f : Bool) (rows : List (List AV)) (σ : List AO) (hel : ∀ r ∈ rows, r.length = 9) (hone : ones rows.flatten = true) (hlt : ∀ n, AV.ltL n rows.flatten) (hn : rows.length ≤ 1000000) : ACalls Tryz.prog 41 [.sl f 9 rows] σ (fun o σ' => o = .ret (.arr σ.length 0 9 0 rows.length) ∧ σ' = σ ++ [.arr 9 0 rows.flatten]) := by
 refine ACalls_body Tryz.func41 rfl Tryz.ntmps41 (res1 Tryz.results41) (Nat.le_of_ble_eq_true rfl) (fun hcl hal => ?_)
 refine zw1 ?_
 refine AWp_seq ?_
 refine zu1 ?_
 refine ztR rfl (op_eqSlR rfl Tryz.underlying26 rfl) (fun v1_1 s1_1 hr => ?_) (fun v1_1 s1_1 hr => ?_)
 rotate_left
 ·exact hr.elim
 obtain ⟨hs, b, rfl, hb⟩ := hr
 rw [hs]
 refine zon ?_
 refine AWp_cond rfl (fun h1 => ?_) (fun h1 => ?_)
 ·(try rw [h1]); replace h1 := zcl h1
  refine zw1 ?_
  have hnil := hb h1
  subst hnil
  refine AWp_ghostT 2 9 rfl ?_ (by decide)
  refine zrt ?_
  refine ResQ_K (v := .arr σ.length 0 9 0 0) (σ.length + 1) (by omega) rfl (closed_own 1 hcl ?_) (by simp [AV.lt]) ⟨rfl, take_own 1⟩
  simp [ownLt, AO.cells, AV.ltL]
 ·(try rw [h1]); replace h1 := zcl h1
  refine AWp_skip ?_
  refine zsr ?_
  refine zt rfl (op_buildSlice0 (sz := 9) rfl Tryz.underlying26 Tryz.sizeOf64) ?_
  refine zg1 ?_
  refine zt rfl (op_appendNew (sz := 9) (m := rows.length) (cs := rows.flatten) rfl (.inr ⟨_, rfl⟩) Tryz.underlying26 Tryz.underlying26 Tryz.type64 rfl rfl rfl (by decide) (.inr rfl) (by rfl) rfl hone (by show rows.length * 128 ≤ _; omega) (by omega) (flatten_len hel)) ?_
  refine zv1 ?_
  refine zrt ?_
  refine ResQ_K (v := .arr σ.length 0 9 0 rows.length) (σ.length + 1) (by omega) rfl (closed_own 1 hcl ?_) (by simp [AV.lt]) ⟨rfl, take_own 1⟩
  simp [ownLt, AO.cells, AV.ltL]; exact hlt _
end Lg
set_option maxRecDepth 20000
set_option maxHeartbeats 4000000
namespace Lg
open Go Go.Proofs Go.RowKit
variable [GLay] 
theorem insV_c (rows : List (List AV)) (row : List AV) (i p g : Nat) (σ : List AO) (hp : σ[p]? = some (.arr 8 g rows.flatten)) (hel : ∀ r ∈ rows, r.length = 8) (hrl : row.length = 8) (hone : ones rows.flatten = true) (hone2 : ones row = true) (hlt : ∀ n, AV.ltLL n rows) (hlt2 : ∀ n, AV.ltL n row) (hi : i ≤ rows.length) (hn : rows.length ≤ 1000000) : ACalls Tryz.prog 38 [.arr p g 8 0 rows.length, .int .i64 (i : Int), .sl true 8 [row]] σ (Ret (.sl false 8 (rows.take i ++ row :: rows.drop i)) (σ.set p .dead)) := by
 refine ACalls_body Tryz.func38 rfl Tryz.ntmps38 (res1 Tryz.results38) (Nat.le_of_ble_eq_true rfl) (fun hcl hal => ?_)
 have hpl := (List.getElem?_eq_some_iff.1 hp).1
 have h0i : 0 + ((i : Int)).toNat = i := by omega
 have h1i : 0 + ((i : Int) + 1).toNat = i + 1 := by omega
 have h2i : 0 + Int.toNat 0 + ((i : Int) + 1).toNat = i + 1 := by omega
 have h3i : 0 + Int.toNat 0 + ((i : Int)).toNat = i := by omega
 have hAl : (rows.take i).flatten.length = i * 8 := tk_len hel hi
 have hR1 : (row ++ []).length = (List.replicate 8 AV.any).length := by rw [List.append_nil, hrl, List.length_replicate]
 have hfl : rows.flatten.length = rows.length * 8 := flatten_len hel
 refine zw1 ?_
 refine zu2 ?_
 refine zt rfl (op_sliceArr _ _ rfl Tryz.underlying25 Tryz.sizeOf28 rfl hp (by first | exact ⟨_, rfl⟩ | rfl) (by first | exact ⟨_, rfl⟩ | rfl) (by omega) (by omega) (by omega)) ?_
 refine zon ?_
 refine zu1 ?_
 refine zt rfl (op_lenS rfl rfl Tryz.underlying25 rfl rfl trivial) ?_
 rw [show (([row].length : Nat) : Int) = 1 from rfl]
 refine zv1 ?_
 refine AWp_seq ?_
 refine zw2 ?_
 refine AWp_condF rfl ?_
 refine AWp_skip ?_
 refine zu1 ?_
 refine zt rfl (op_lenS rfl rfl Tryz.underlying25 rfl rfl ⟨_, _, hp⟩) ?_
 refine zv1 ?_
 refine AWp_seq ?_
 refine zw3 ?_
 refine AWp_cond rfl (fun h1 => ?_) (fun h1 => ?_)
 ·(try rw [h1]); replace h1 := zcl h1
  refine zu2 ?_
  refine zt rfl (op_appendArr (p := p) (gg := g) (off := 0) (len := rows.length) (sz := 8) (m := 1) (cs := row ++ []) rfl (.inr ⟨_, rfl⟩) Tryz.underlying25 Tryz.underlying25 Tryz.type28 rfl rfl rfl (by decide) rfl hp (by rw [Nat.zero_add, hfl]) rfl rfl (by rw [List.append_nil]; exact hone2) (by show (rows.length + 1) * 112 ≤ _; omega) (by omega) (by rw [List.append_nil, hrl])) ?_
  refine zv1 ?_
  refine AWp_heap (σ' := σ.set p (.arr 8 (g + 1) (rows ++ [row]).flatten)) (by rw [Nat.zero_mul, List.drop_zero, List.append_nil, List.flatten_append]; simp) ?_
  refine AWp_freezeC 6 p (g + 1) 8 (rows.length + 1) (rows ++ [row]) rfl (get_set hpl) (by rw [List.take_of_length_le (by rw [List.flatten_append, List.length_append, hfl]; simp [hrl]; omega)]) (by have := ins_el (i := rows.length) hel hrl; rwa [ins_end] at this) (by simp) (by decide) (by rw [List.flatten_append, List.length_append, hfl]; simp [hrl]; omega) ?_ (by decide)
  have hie : i = rows.length := by omega
  subst hie
  rw [List.set_set, ins_end]
  refine zrt ?_
  exact ResQ_S0 (x := .dead) rfl hcl trivial (by have := ins_lt (i := rows.length) hlt hlt2 σ.length; rw [ins_end] at this; exact this) (Ret_of rfl)
 ·(try rw [h1]); replace h1 := zcl h1
  refine AWp_skip ?_
  refine AWp_seq ?_
  refine AWp_seq ?_
  refine AWp_reveal 0 p g 8 rows.length rfl hp hfl (by omega) (by decide) (by decide) (fun cap hcap => ?_)
  refine AWp_regL ?_
  refine zg4 ?_
  refine zt rfl (op_capC rfl rfl Tryz.underlying25 rfl (get_set hpl)) ?_
  refine zv1 ?_
  refine AWp_cond rfl (fun h2 => ?_) (fun h2 => ?_)
  ·(try rw [h2]); replace h2 := zcl h2
   refine zu2 ?_
   refine zt rfl (op_sliceC _ _ rfl Tryz.underlying25 Tryz.sizeOf28 rfl (get_set hpl) (by first | exact ⟨_, rfl⟩ | rfl) (by first | exact ⟨_, rfl⟩ | rfl) (by omega) (by omega) (by omega) (by omega)) ?_
   refine zg5 ?_
   rw [show ((rows.length : Int) + 1 - (i : Int)) = ((rows.length + 1 - i : Nat) : Int) by omega]
   refine zt rfl (op_appendZ (sz := 8) (p := p) (g := g + 1) (off := 0) (len := i) (cap := cap) (k := rows.length + 1 - i) rfl Tryz.underlying25 Tryz.underlying3 Tryz.type28 rfl rfl rfl rfl (get_set hpl) (by decide) (by omega) (by rw [List.length_append, hfl]; omega) rfl (by omega) (by show (i + (rows.length + 1 - i)) * 112 ≤ _; omega) (by omega)) ?_
   rw [List.length_set]
   refine zv1 ?_
   refine AWp_seq ?_
   refine AWp_heap (σ' := σ.set p (.arr 8 (g + 1) (rows.flatten ++ List.replicate ((cap - rows.length) * 8) .any)) ++ [.arr 8 0 ((rows.take i).flatten ++ (List.replicate 8 AV.any ++ List.replicate ((rows.length - i) * 8) AV.any))]) (by rw [grow_cells hel (by omega)]) ?_
   refine AWp_slotLe 0 rfl (AVle.capA _ _ _ _ _ _) ?_ (by decide)
   have hcl1 : ((rows.take i).flatten ++ (List.replicate 8 AV.any ++ List.replicate ((rows.length - i) * 8) AV.any)).length = i * 8 + (8 + (rows.length - i) * 8) := by rw [List.length_append, List.length_append, hAl, List.length_replicate, List.length_replicate]
   refine AWp_regL ?_
   refine zg2 ?_
   refine zt rfl (op_sliceArr _ _ rfl Tryz.underlying25 Tryz.sizeOf28 rfl get_set1 (by first | exact ⟨_, rfl⟩ | rfl) (by first | exact ⟨_, rfl⟩ | rfl) (by omega) (by omega) (by omega)) ?_
   refine zg1 ?_
   refine zt rfl (op_copyA (sz := 8) (m := 1) (n := 1) (ds := row ++ []) rfl Tryz.underlying25 Tryz.sizeOf28 rfl get_set1 (by omega) (by decide) (by rw [hcl1]; omega) rfl (src_all rfl rfl) (by omega) (by rw [List.append_nil, hrl]) (by rw [List.append_nil]; exact hone2)) ?_
   refine zon ?_
   refine AWp_seq ?_
   refine AWp_heap (σ' := σ.set p (.arr 8 (g + 1) (rows.flatten ++ List.replicate ((cap - rows.length) * 8) .any)) ++ [.arr 8 0 ((rows.take i).flatten ++ ((row ++ []) ++ List.replicate ((rows.length - i) * 8) AV.any))]) (by rw [set_set1, h0i, cpy hAl hR1]) ?_
   have hcl2 : ((rows.take i).flatten ++ ((row ++ []) ++ List.replicate ((rows.length - i) * 8) AV.any)).length = i * 8 + (8 + (rows.length - i) * 8) := by rw [List.length_append, List.length_append, hAl, List.length_replicate, List.append_nil, hrl]
   refine AWp_drawL #[0, 0, 0, 6, 15, 0, 0, 96, 255] Tryz.mixed (by decide +kernel) (by decide +kernel) ?_
   refine zd4 ?_
   refine yP rfl rfl (op_sliceArr _ _ rfl Tryz.underlying25 Tryz.sizeOf28 rfl get_set1 (by first | exact ⟨_, rfl⟩ | rfl) (by first | exact ⟨_, rfl⟩ | rfl) (by omega) (by omega) (by omega)) (trivial) ?_
   refine zd2 ?_
   refine yP rfl rfl (op_sliceArr _ _ rfl Tryz.underlying25 Tryz.sizeOf28 rfl (get_setB hpl) (by first | exact ⟨_, rfl⟩ | rfl) (by first | exact ⟨_, rfl⟩ | rfl) (by omega) (by omega) (by omega)) (trivial) ?_
   refine yE rfl rfl (op_copyA (sz := 8) (n := rows.length - i) (ds := (rows.drop i).flatten) rfl Tryz.underlying25 Tryz.sizeOf28 rfl get_set1 (by omega) (by decide) (by rw [hcl2]; omega) rfl (src_rows (get_setB hpl) hel (by omega) hi (by omega) (by rw [List.length_append, hfl]; omega)) (by omega) (dr_len hel) (ones_drop i hone)) (⟨.inl rfl, ⟨.inl rfl, trivial⟩⟩) (trivial) ?_
   refine RP.nil rfl ?_
   refine zw2 ?_
   have hfin : ((rows.take i).flatten ++ ((row ++ []) ++ (rows.drop i).flatten)) = (rows.take i ++ row :: rows.drop i).flatten := by rw [ins_flat, List.append_nil]
   have hfl2 : (rows.take i ++ row :: rows.drop i).flatten.length = (rows.length + 1) * 8 := by rw [flatten_len (ins_el hel hrl), ins_len hi]
   refine AWp_heap (σ' := σ.set p (.arr 8 (g + 1) (rows.flatten ++ List.replicate ((cap - rows.length) * 8) .any)) ++ [.arr 8 0 (rows.take i ++ row :: rows.drop i).flatten]) (by rw [set_set1, h1i, cpy2 (by rw [hAl, List.append_nil, hrl]; omega) (by rw [dr_len hel, List.length_replicate]), hfin]) ?_
   refine AWp_freezeC 6 σ.length 0 8 (i + (rows.length + 1 - i)) (rows.take i ++ row :: rows.drop i) rfl get_set1 (List.take_of_length_le (by rw [hfl2]; omega)).symm (ins_el hel hrl) (by rw [ins_len hi]; omega) (by decide) (by rw [hfl2]; omega) ?_ (by decide)
   rw [set_set1]
   refine AWp_freezeC 0 p (g + 1) 8 rows.length rows rfl (get_setB hpl) (by rw [← hfl, List.take_left]) hel rfl (by decide) (by rw [List.length_append, hfl]; omega) ?_ (by decide)
   rw [set_setB hpl]
   refine zrt ?_
   exact ResQ_S (x := .dead) rfl hcl trivial (ins_lt hlt hlt2 _) (Ret_of rfl)
  ·(try rw [h2]); replace h2 := zcl h2
   refine AWp_skip ?_
   refine zu4 ?_
   refine zt rfl (op_sliceC _ _ rfl Tryz.underlying25 Tryz.sizeOf28 rfl (get_set hpl) (by first | exact ⟨_, rfl⟩ | rfl) (by first | exact ⟨_, rfl⟩ | rfl) (by omega) (by omega) (by omega) (by omega)) ?_
   refine zv1 ?_
   refine AWp_seq ?_
   refine zu5 ?_
   refine zt rfl (op_sliceC _ _ rfl Tryz.underlying25 Tryz.sizeOf28 rfl (get_set hpl) (by first | exact ⟨_, rfl⟩ | rfl) (by first | exact ⟨_, rfl⟩ | rfl) (by omega) (by omega) (by omega) (by omega)) ?_
   refine zt rfl (op_overlapsS (tS := 25) (tR := 4) rfl Tryz.func68 (by kernel_rfl) (by kernel_rfl) (by kernel_rfl) (by kernel_rfl) Tryz.underlying25 Tryz.sizeOf28 rfl rfl (get_set hpl) (by decide) (by omega)) ?_
   refine zv1 ?_
   refine AWp_condT rfl ?_
   refine AWp_seq ?_
   refine AWp_slotLe 0 rfl (AVle.capA _ _ _ _ _ _) ?_ (by decide)
   have hroom := room_cells (cap := cap) hel (show i < rows.length by omega) (by omega)
   have hcl3 : (rows.flatten ++ List.replicate ((cap - rows.length) * 8) AV.any).length = rows.length * 8 + (cap - rows.length) * 8 := by rw [List.length_append, hfl, List.length_replicate]
   refine AWp_drawL #[0, 0, 0, 6, 15, 0, 0, 96, 255] Tryz.mixed (by decide +kernel) (by decide +kernel) ?_
   refine zd4 ?_
   refine yP rfl rfl (op_sliceArr _ _ rfl Tryz.underlying25 Tryz.sizeOf28 rfl (get_set hpl) (by first | exact ⟨_, rfl⟩ | rfl) (by first | exact ⟨_, rfl⟩ | rfl) (by omega) (by omega) (by omega)) (trivial) ?_
   refine zd2 ?_
   refine yP rfl rfl (op_sliceArr _ _ rfl Tryz.underlying25 Tryz.sizeOf28 rfl (get_set hpl) (by first | exact ⟨_, rfl⟩ | rfl) (by first | exact ⟨_, rfl⟩ | rfl) (by omega) (by omega) (by omega)) (trivial) ?_
   refine yE rfl rfl (op_copyA (sz := 8) (n := rows.length - i) (ds := (rows.drop i).flatten) rfl Tryz.underlying25 Tryz.sizeOf28 rfl (get_set hpl) (by omega) (by decide) (by rw [hcl3]; omega) rfl (src_rows (get_set hpl) hel (by omega) hi (by omega) (by rw [hcl3]; omega)) (by omega) (dr_len hel) (ones_drop i hone)) (⟨.inl rfl, ⟨.inl rfl, trivial⟩⟩) (trivial) ?_
   refine RP.nil rfl ?_
   refine AWp_seq ?_
   refine AWp_heap (σ' := σ.set p (.arr 8 (g + 1) ((rows.take i).flatten ++ (((rows.drop i).flatten ++ (List.replicate 8 AV.any ++ List.replicate ((cap - rows.length - 1) * 8) AV.any)).take 8 ++ ((rows.drop i).flatten ++ List.replicate ((cap - rows.length - 1) * 8) AV.any))))) (by rw [List.set_set, hroom, h2i, shiftc2 hAl]) ?_
   have hT : (row ++ []).length = (((rows.drop i).flatten ++ (List.replicate 8 AV.any ++ List.replicate ((cap - rows.length - 1) * 8) AV.any)).take 8).length := by rw [List.append_nil, hrl, List.length_take, List.length_append, List.length_append, List.length_replicate]; omega
   have hcl4 : ((rows.take i).flatten ++ (((rows.drop i).flatten ++ (List.replicate 8 AV.any ++ List.replicate ((cap - rows.length - 1) * 8) AV.any)).take 8 ++ ((rows.drop i).flatten ++ List.replicate ((cap - rows.length - 1) * 8) AV.any))).length = i * 8 + (8 + ((rows.length - i) * 8 + (cap - rows.length - 1) * 8)) := by rw [List.length_append, List.length_append, List.length_append, ← hT, hAl, dr_len hel, List.length_replicate, List.append_nil, hrl]
   refine AWp_regL ?_
   refine zg2 ?_
   refine zt rfl (op_sliceArr _ _ rfl Tryz.underlying25 Tryz.sizeOf28 rfl (get_set hpl) (by first | exact ⟨_, rfl⟩ | rfl) (by first | exact ⟨_, rfl⟩ | rfl) (by omega) (by omega) (by omega)) ?_
   refine zg1 ?_
   refine zt rfl (op_copyA (sz := 8) (m := 1) (n := 1) (ds := row ++ []) rfl Tryz.underlying25 Tryz.sizeOf28 rfl (get_set hpl) (by omega) (by decide) (by rw [hcl4]; omega) rfl (src_all rfl rfl) (by omega) (by rw [List.append_nil, hrl]) (by rw [List.append_nil]; exact hone2)) ?_
   refine zon ?_
   refine zw2 ?_
   have hfin : ((rows.take i).flatten ++ ((row ++ []) ++ ((rows.drop i).flatten ++ List.replicate ((cap - rows.length - 1) * 8) AV.any))) = (rows.take i ++ row :: rows.drop i).flatten ++ List.replicate ((cap - rows.length - 1) * 8) AV.any := by rw [ins_flat, List.append_nil]; simp only [List.append_assoc]
   have hfl2 : (rows.take i ++ row :: rows.drop i).flatten.length = (rows.length + 1) * 8 := by rw [flatten_len (ins_el hel hrl), ins_len hi]
   refine AWp_heap (σ' := σ.set p (.arr 8 (g + 1) ((rows.take i ++ row :: rows.drop i).flatten ++ List.replicate ((cap - rows.length - 1) * 8) AV.any))) (by rw [List.set_set, h3i, cpy hAl hT, hfin]) ?_
   refine AWp_freezeC 6 p (g + 1) 8 _ (rows.take i ++ row :: rows.drop i) rfl (get_set hpl) (List.take_left' (by rw [hfl2]; omega)).symm (ins_el hel hrl) (by rw [ins_len hi]; omega) (by decide) (by rw [List.length_append, hfl2]; omega) ?_ (by decide)
   rw [List.set_set]
   refine zrt ?_
   exact ResQ_S0 (x := .dead) rfl hcl trivial (ins_lt hlt hlt2 _) (Ret_of rfl)
end Lg
set_option maxRecDepth 20000
set_option maxHeartbeats 4000000
namespace Lg
open Go Go.Proofs Go.RowKit
variable [GLay] 
theorem insM_c (rows : List (List AV)) (row : List AV) (i p g : Nat) (σ : List AO) (hp : σ[p]? = some (.arr 9 g rows.flatten)) (hel : ∀ r ∈ rows, r.length = 9) (hrl : row.length = 9) (hone : ones rows.flatten = true) (hone2 : ones row = true) (hlt : ∀ n, AV.ltLL n rows) (hlt2 : ∀ n, AV.ltL n row) (hi : i ≤ rows.length) (hn : rows.length ≤ 1000000) : ACalls Tryz.prog 42 [.arr p g 9 0 rows.length, .int .i64 (i : Int), .sl true 9 [row]] σ (Ret (.sl false 9 (rows.take i ++ row :: rows.drop i)) (σ.set p .dead)) := by
 refine ACalls_body Tryz.func42 rfl Tryz.ntmps42 (res1 Tryz.results42) (Nat.le_of_ble_eq_true rfl) (fun hcl hal => ?_)
 have hpl := (List.getElem?_eq_some_iff.1 hp).1
 have h0i : 0 + ((i : Int)).toNat = i := by omega
 have h1i : 0 + ((i : Int) + 1).toNat = i + 1 := by omega
 have h2i : 0 + Int.toNat 0 + ((i : Int) + 1).toNat = i + 1 := by omega
 have h3i : 0 + Int.toNat 0 + ((i : Int)).toNat = i := by omega
 have hAl : (rows.take i).flatten.length = i * 9 := tk_len hel hi
 have hR1 : (row ++ []).length = (List.replicate 9 AV.any).length := by rw [List.append_nil, hrl, List.length_replicate]
 have hfl : rows.flatten.length = rows.length * 9 := flatten_len hel
 refine zw1 ?_
 refine zu2 ?_
 refine zt rfl (op_sliceArr _ _ rfl Tryz.underlying26 Tryz.sizeOf64 rfl hp (by first | exact ⟨_, rfl⟩ | rfl) (by first | exact ⟨_, rfl⟩ | rfl) (by omega) (by omega) (by omega)) ?_
 refine zon ?_
 refine zu1 ?_
 refine zt rfl (op_lenS rfl rfl Tryz.underlying26 rfl rfl trivial) ?_
 rw [show (([row].length : Nat) : Int) = 1 from rfl]
 refine zv1 ?_
 refine AWp_seq ?_
 refine zw2 ?_
 refine AWp_condF rfl ?_
 refine AWp_skip ?_
 refine zu1 ?_
 refine zt rfl (op_lenS rfl rfl Tryz.underlying26 rfl rfl ⟨_, _, hp⟩) ?_
 refine zv1 ?_
 refine AWp_seq ?_
 refine zw3 ?_
 refine AWp_cond rfl (fun h1 => ?_) (fun h1 => ?_)
 ·(try rw [h1]); replace h1 := zcl h1
  refine zu2 ?_
  refine zt rfl (op_appendArr (p := p) (gg := g) (off := 0) (len := rows.length) (sz := 9) (m := 1) (cs := row ++ []) rfl (.inr ⟨_, rfl⟩) Tryz.underlying26 Tryz.underlying26 Tryz.type64 rfl rfl rfl (by decide) rfl hp (by rw [Nat.zero_add, hfl]) rfl rfl (by rw [List.append_nil]; exact hone2) (by show (rows.length + 1) * 128 ≤ _; omega) (by omega) (by rw [List.append_nil, hrl])) ?_
  refine zv1 ?_
  refine AWp_heap (σ' := σ.set p (.arr 9 (g + 1) (rows ++ [row]).flatten)) (by rw [Nat.zero_mul, List.drop_zero, List.append_nil, List.flatten_append]; simp) ?_
  refine AWp_freezeC 6 p (g + 1) 9 (rows.length + 1) (rows ++ [row]) rfl (get_set hpl) (by rw [List.take_of_length_le (by rw [List.flatten_append, List.length_append, hfl]; simp [hrl]; omega)]) (by have := ins_el (i := rows.length) hel hrl; rwa [ins_end] at this) (by simp) (by decide) (by rw [List.flatten_append, List.length_append, hfl]; simp [hrl]; omega) ?_ (by decide)
  have hie : i = rows.length := by omega
  subst hie
  rw [List.set_set, ins_end]
  refine zrt ?_
  exact ResQ_S0 (x := .dead) rfl hcl trivial (by have := ins_lt (i := rows.length) hlt hlt2 σ.length; rw [ins_end] at this; exact this) (Ret_of rfl)
 ·(try rw [h1]); replace h1 := zcl h1
  refine AWp_skip ?_
  refine AWp_seq ?_
  refine AWp_seq ?_
  refine AWp_reveal 0 p g 9 rows.length rfl hp hfl (by omega) (by decide) (by decide) (fun cap hcap => ?_)
  refine AWp_regL ?_
  refine zg4 ?_
  refine zt rfl (op_capC rfl rfl Tryz.underlying26 rfl (get_set hpl)) ?_
  refine zv1 ?_
  refine AWp_cond rfl (fun h2 => ?_) (fun h2 => ?_)
  ·(try rw [h2]); replace h2 := zcl h2
   refine zu2 ?_
   refine zt rfl (op_sliceC _ _ rfl Tryz.underlying26 Tryz.sizeOf64 rfl (get_set hpl) (by first | exact ⟨_, rfl⟩ | rfl) (by first | exact ⟨_, rfl⟩ | rfl) (by omega) (by omega) (by omega) (by omega)) ?_
   refine zg5 ?_
   rw [show ((rows.length : Int) + 1 - (i : Int)) = ((rows.length + 1 - i : Nat) : Int) by omega]
   refine zt rfl (op_appendZ (sz := 9) (p := p) (g := g + 1) (off := 0) (len := i) (cap := cap) (k := rows.length + 1 - i) rfl Tryz.underlying26 Tryz.underlying3 Tryz.type64 rfl rfl rfl rfl (get_set hpl) (by decide) (by omega) (by rw [List.length_append, hfl]; omega) rfl (by omega) (by show (i + (rows.length + 1 - i)) * 128 ≤ _; omega) (by omega)) ?_
   rw [List.length_set]
   refine zv1 ?_
   refine AWp_seq ?_
   refine AWp_heap (σ' := σ.set p (.arr 9 (g + 1) (rows.flatten ++ List.replicate ((cap - rows.length) * 9) .any)) ++ [.arr 9 0 ((rows.take i).flatten ++ (List.replicate 9 AV.any ++ List.replicate ((rows.length - i) * 9) AV.any))]) (by rw [grow_cells hel (by omega)]) ?_
   refine AWp_slotLe 0 rfl (AVle.capA _ _ _ _ _ _) ?_ (by decide)
   have hcl1 : ((rows.take i).flatten ++ (List.replicate 9 AV.any ++ List.replicate ((rows.length - i) * 9) AV.any)).length = i * 9 + (9 + (rows.length - i) * 9) := by rw [List.length_append, List.length_append, hAl, List.length_replicate, List.length_replicate]
   refine AWp_regL ?_
   refine zg2 ?_
   refine zt rfl (op_sliceArr _ _ rfl Tryz.underlying26 Tryz.sizeOf64 rfl get_set1 (by first | exact ⟨_, rfl⟩ | rfl) (by first | exact ⟨_, rfl⟩ | rfl) (by omega) (by omega) (by omega)) ?_
   refine zg1 ?_
   refine zt rfl (op_copyA (sz := 9) (m := 1) (n := 1) (ds := row ++ []) rfl Tryz.underlying26 Tryz.sizeOf64 rfl get_set1 (by omega) (by decide) (by rw [hcl1]; omega) rfl (src_all rfl rfl) (by omega) (by rw [List.append_nil, hrl]) (by rw [List.append_nil]; exact hone2)) ?_
   refine zon ?_
   refine AWp_seq ?_
   refine AWp_heap (σ' := σ.set p (.arr 9 (g + 1) (rows.flatten ++ List.replicate ((cap - rows.length) * 9) .any)) ++ [.arr 9 0 ((rows.take i).flatten ++ ((row ++ []) ++ List.replicate ((rows.length - i) * 9) AV.any))]) (by rw [set_set1, h0i, cpy hAl hR1]) ?_
   have hcl2 : ((rows.take i).flatten ++ ((row ++ []) ++ List.replicate ((rows.length - i) * 9) AV.any)).length = i * 9 + (9 + (rows.length - i) * 9) := by rw [List.length_append, List.length_append, hAl, List.length_replicate, List.append_nil, hrl]
   refine AWp_drawL #[0, 0, 0, 6, 15, 0, 0, 96, 255] Tryz.mixed (by decide +kernel) (by decide +kernel) ?_
   refine zd4 ?_
   refine yP rfl rfl (op_sliceArr _ _ rfl Tryz.underlying26 Tryz.sizeOf64 rfl get_set1 (by first | exact ⟨_, rfl⟩ | rfl) (by first | exact ⟨_, rfl⟩ | rfl) (by omega) (by omega) (by omega)) (trivial) ?_
   refine zd2 ?_
   refine yP rfl rfl (op_sliceArr _ _ rfl Tryz.underlying26 Tryz.sizeOf64 rfl (get_setB hpl) (by first | exact ⟨_, rfl⟩ | rfl) (by first | exact ⟨_, rfl⟩ | rfl) (by omega) (by omega) (by omega)) (trivial) ?_
   refine yE rfl rfl (op_copyA (sz := 9) (n := rows.length - i) (ds := (rows.drop i).flatten) rfl Tryz.underlying26 Tryz.sizeOf64 rfl get_set1 (by omega) (by decide) (by rw [hcl2]; omega) rfl (src_rows (get_setB hpl) hel (by omega) hi (by omega) (by rw [List.length_append, hfl]; omega)) (by omega) (dr_len hel) (ones_drop i hone)) (⟨.inl rfl, ⟨.inl rfl, trivial⟩⟩) (trivial) ?_
   refine RP.nil rfl ?_
   refine zw2 ?_
   have hfin : ((rows.take i).flatten ++ ((row ++ []) ++ (rows.drop i).flatten)) = (rows.take i ++ row :: rows.drop i).flatten := by rw [ins_flat, List.append_nil]
   have hfl2 : (rows.take i ++ row :: rows.drop i).flatten.length = (rows.length + 1) * 9 := by rw [flatten_len (ins_el hel hrl), ins_len hi]
   refine AWp_heap (σ' := σ.set p (.arr 9 (g + 1) (rows.flatten ++ List.replicate ((cap - rows.length) * 9) .any)) ++ [.arr 9 0 (rows.take i ++ row :: rows.drop i).flatten]) (by rw [set_set1, h1i, cpy2 (by rw [hAl, List.append_nil, hrl]; omega) (by rw [dr_len hel, List.length_replicate]), hfin]) ?_
   refine AWp_freezeC 6 σ.length 0 9 (i + (rows.length + 1 - i)) (rows.take i ++ row :: rows.drop i) rfl get_set1 (List.take_of_length_le (by rw [hfl2]; omega)).symm (ins_el hel hrl) (by rw [ins_len hi]; omega) (by decide) (by rw [hfl2]; omega) ?_ (by decide)
   rw [set_set1]
   refine AWp_freezeC 0 p (g + 1) 9 rows.length rows rfl (get_setB hpl) (by rw [← hfl, List.take_left]) hel rfl (by decide) (by rw [List.length_append, hfl]; omega) ?_ (by decide)
   rw [set_setB hpl]
   refine zrt ?_
   exact ResQ_S (x := .dead) rfl hcl trivial (ins_lt hlt hlt2 _) (Ret_of rfl)
  ·(try rw [h2]); replace h2 := zcl h2
   refine AWp_skip ?_
   refine zu4 ?_
   refine zt rfl (op_sliceC _ _ rfl Tryz.underlying26 Tryz.sizeOf64 rfl (get_set hpl) (by first | exact ⟨_, rfl⟩ | rfl) (by first | exact ⟨_, rfl⟩ | rfl) (by omega) (by omega) (by omega) (by omega)) ?_
   refine zv1 ?_
   refine AWp_seq ?_
   refine zu5 ?_
   refine zt rfl (op_sliceC _ _ rfl Tryz.underlying26 Tryz.sizeOf64 rfl (get_set hpl) (by first | exact ⟨_, rfl⟩ | rfl) (by first | exact ⟨_, rfl⟩ | rfl) (by omega) (by omega) (by omega) (by omega)) ?_
   refine zt rfl (op_overlapsS (tS := 26) (tR := 4) rfl Tryz.func73 (by kernel_rfl) (by kernel_rfl) (by kernel_rfl) (by kernel_rfl) Tryz.underlying26 Tryz.sizeOf64 rfl rfl (get_set hpl) (by decide) (by omega)) ?_
   refine zv1 ?_
   refine AWp_condT rfl ?_
   refine AWp_seq ?_
   refine AWp_slotLe 0 rfl (AVle.capA _ _ _ _ _ _) ?_ (by decide)
   have hroom := room_cells (cap := cap) hel (show i < rows.length by omega) (by omega)
   have hcl3 : (rows.flatten ++ List.replicate ((cap - rows.length) * 9) AV.any).length = rows.length * 9 + (cap - rows.length) * 9 := by rw [List.length_append, hfl, List.length_replicate]
   refine AWp_drawL #[0, 0, 0, 6, 15, 0, 0, 96, 255] Tryz.mixed (by decide +kernel) (by decide +kernel) ?_
   refine zd4 ?_
   refine yP rfl rfl (op_sliceArr _ _ rfl Tryz.underlying26 Tryz.sizeOf64 rfl (get_set hpl) (by first | exact ⟨_, rfl⟩ | rfl) (by first | exact ⟨_, rfl⟩ | rfl) (by omega) (by omega) (by omega)) (trivial) ?_
   refine zd2 ?_
   refine yP rfl rfl (op_sliceArr _ _ rfl Tryz.underlying26 Tryz.sizeOf64 rfl (get_set hpl) (by first | exact ⟨_, rfl⟩ | rfl) (by first | exact ⟨_, rfl⟩ | rfl) (by omega) (by omega) (by omega)) (trivial) ?_
   refine yE rfl rfl (op_copyA (sz := 9) (n := rows.length - i) (ds := (rows.drop i).flatten) rfl Tryz.underlying26 Tryz.sizeOf64 rfl (get_set hpl) (by omega) (by decide) (by rw [hcl3]; omega) rfl (src_rows (get_set hpl) hel (by omega) hi (by omega) (by rw [hcl3]; omega)) (by omega) (dr_len hel) (ones_drop i hone)) (⟨.inl rfl, ⟨.inl rfl, trivial⟩⟩) (trivial) ?_
   refine RP.nil rfl ?_
   refine AWp_seq ?_
   refine AWp_heap (σ' := σ.set p (.arr 9 (g + 1) ((rows.take i).flatten ++ (((rows.drop i).flatten ++ (List.replicate 9 AV.any ++ List.replicate ((cap - rows.length - 1) * 9) AV.any)).take 9 ++ ((rows.drop i).flatten ++ List.replicate ((cap - rows.length - 1) * 9) AV.any))))) (by rw [List.set_set, hroom, h2i, shiftc2 hAl]) ?_
   have hT : (row ++ []).length = (((rows.drop i).flatten ++ (List.replicate 9 AV.any ++ List.replicate ((cap - rows.length - 1) * 9) AV.any)).take 9).length := by rw [List.append_nil, hrl, List.length_take, List.length_append, List.length_append, List.length_replicate]; omega
   have hcl4 : ((rows.take i).flatten ++ (((rows.drop i).flatten ++ (List.replicate 9 AV.any ++ List.replicate ((cap - rows.length - 1) * 9) AV.any)).take 9 ++ ((rows.drop i).flatten ++ List.replicate ((cap - rows.length - 1) * 9) AV.any))).length = i * 9 + (9 + ((rows.length - i) * 9 + (cap - rows.length - 1) * 9)) := by rw [List.length_append, List.length_append, List.length_append, ← hT, hAl, dr_len hel, List.length_replicate, List.append_nil, hrl]
   refine AWp_regL ?_
   refine zg2 ?_
   refine zt rfl (op_sliceArr _ _ rfl Tryz.underlying26 Tryz.sizeOf64 rfl (get_set hpl) (by first | exact ⟨_, rfl⟩ | rfl) (by first | exact ⟨_, rfl⟩ | rfl) (by omega) (by omega) (by omega)) ?_
   refine zg1 ?_
   refine zt rfl (op_copyA (sz := 9) (m := 1) (n := 1) (ds := row ++ []) rfl Tryz.underlying26 Tryz.sizeOf64 rfl (get_set hpl) (by omega) (by decide) (by rw [hcl4]; omega) rfl (src_all rfl rfl) (by omega) (by rw [List.append_nil, hrl]) (by rw [List.append_nil]; exact hone2)) ?_
   refine zon ?_
   refine zw2 ?_
   have hfin : ((rows.take i).flatten ++ ((row ++ []) ++ ((rows.drop i).flatten ++ List.replicate ((cap - rows.length - 1) * 9) AV.any))) = (rows.take i ++ row :: rows.drop i).flatten ++ List.replicate ((cap - rows.length - 1) * 9) AV.any := by rw [ins_flat, List.append_nil]; simp only [List.append_assoc]
   have hfl2 : (rows.take i ++ row :: rows.drop i).flatten.length = (rows.length + 1) * 9 := by rw [flatten_len (ins_el hel hrl), ins_len hi]
   refine AWp_heap (σ' := σ.set p (.arr 9 (g + 1) ((rows.take i ++ row :: rows.drop i).flatten ++ List.replicate ((cap - rows.length - 1) * 9) AV.any))) (by rw [List.set_set, h3i, cpy hAl hT, hfin]) ?_
   refine AWp_freezeC 6 p (g + 1) 9 _ (rows.take i ++ row :: rows.drop i) rfl (get_set hpl) (List.take_left' (by rw [hfl2]; omega)).symm (ins_el hel hrl) (by rw [ins_len hi]; omega) (by decide) (by rw [List.length_append, hfl2]; omega) ?_ (by decide)
   rw [List.set_set]
   refine zrt ?_
   exact ResQ_S0 (x := .dead) rfl hcl trivial (ins_lt hlt hlt2 _) (Ret_of rfl)
end Lg
namespace Lg
open Go Go.RowKit
variable [GLay]
section
variable {P : Program} {σ : List AO} {e : Env} {o : Oper}
theorem run_slice3 {w : World} {T E : TypeId} {sz len cap : Nat} {A : Option Addr} {k1 k2 k3 : IntKind} {l h m : Int} (hu : P.underlying T = some (.slice E)) (hsz : ∀ w, (Go.sizeOf E).run P w = Result.ok sz w)
    (h0 : 0 ≤ l) (h1 : l ≤ h) (h2 : h ≤ m) (h3 : m ≤ cap) :
    ∃ v, (Instr.sliceAt T (.slice A len cap) (some (.int k1 l)) (some (.int k2 h)) (some (.int k3 m))).run P w = .ok v w := by
  have e0 : 0 ≤ h := by omega
  have e1 : 0 ≤ m := by omega
  have e2 : h ≤ max m 0 := by omega
  have e3 : l ≤ max h 0 := by omega
  refine ⟨_, by simp [Instr.sliceAt, Instr.slice, Instr.sliceBounds, Instr.sliceBound, asIntOf, run_underlying hu, hsz, h0, e0, e1, h3, e2, e3]; rfl⟩
theorem op_slice3C {T E : TypeId} {x lo hi mx : Operand} {sz p g off len cap : Nat} {cs : List AV} {k1 k2 k3 : IntKind} {l h m : Int} (ho : o.op = .slice T x (some lo) (some hi) (some mx)) (hu : P.underlying T = some (.slice E))
    (hsz : ∀ w, (Go.sizeOf E).run P w = Result.ok sz w) (hx : opO e x = some (.arrC p g sz off len cap)) (hσ : σ[p]? = some (.arr sz g cs)) (hl : opO e lo = some (.int k1 l)) (hh : opO e hi = some (.int k2 h)) (hm : opO e mx = some (.int k3 m))
    (h0 : 0 ≤ l) (h1 : l ≤ h) (h2 : h ≤ m) (h3 : m ≤ cap) : AOp P σ e o .any σ :=
  .of_run fun s a hs _ hv => by
    subst hs
    have hxv := (opO_eq hx ▸ hv x (by simp [ho, Op.operands])).inv_arrC hσ
    have h5 := (opO_eq hl ▸ hv lo (by simp [ho, Op.operands])).inv_int
    have h6 := (opO_eq hh ▸ hv hi (by simp [ho, Op.operands])).inv_int
    have h7 := (opO_eq hm ▸ hv mx (by simp [ho, Op.operands])).inv_int
    obtain ⟨_, hA, _, _⟩ := hxv
    obtain ⟨v, hr⟩ := run_slice3 (P := P) (w := s.w) (T := T) (E := E) (sz := sz) (len := len) (cap := cap) (A := some ⟨(s.μ p).b, (s.μ p).base + off * sz, none⟩) (k1 := k1) (k2 := k2) (k3 := k3) hu hsz h0 h1 h2 h3
    refine ⟨v, ?_, .any _⟩
    simp only [execOp, ho, hA, h5, h6, h7, Sem.run_bind, Option.map_some]
    rw [hr]; rfl
end
end Lg
namespace Lg
open Go Go.RowKit
variable [GLay]
section
variable {P : Program} {σ σ' : List AO} {e : Env} {o : Oper}
theorem AOp.resLe {v w : AV} (h : AOp P σ e o v σ') (hle : AVle v w) : AOp P σ e o w σ' := by
  intro s a hs g hv K Q hk hq
  exact h s a hs g hv K Q (fun v' cv s' ⟨hv', hs'⟩ g' x' hV => hk w cv s' ⟨rfl, hs'⟩ g' x' (hle _ _ (hv' ▸ hV))) hq
theorem op_sliceCB {T E : TypeId} {x : Operand} {lo hi : Option Operand} {sz p g off len cap : Nat} {cs : List AV} (l h : Int) (ho : o.op = .slice T x lo hi none) (hu : P.underlying T = some (.slice E))
    (hsz : ∀ w, (Go.sizeOf E).run P w = Result.ok sz w) (hx : opO e x = some (.arrC p g sz off len cap)) (hσ : σ[p]? = some (.arr sz g cs))
    (hl : bnd e 0 l lo) (hh : bnd e (len : Nat) h hi) (h0 : 0 ≤ l) (h1 : l ≤ h) (h2 : h ≤ cap) (h3 : l < cap) : AOp P σ e o (.arr p g sz (off + l.toNat) (h.toNat - l.toNat)) σ :=
  (op_sliceC l h ho hu hsz hx hσ hl hh h0 h1 h2 h3).resLe (AVle.capA _ _ _ _ _ _)
theorem op_sliceCA {T E : TypeId} {x : Operand} {lo hi : Option Operand} {sz p g off len cap : Nat} {cs : List AV} (l h : Int) (ho : o.op = .slice T x lo hi none) (hu : P.underlying T = some (.slice E))
    (hsz : ∀ w, (Go.sizeOf E).run P w = Result.ok sz w) (hx : opO e x = some (.arrC p g sz off len cap)) (hσ : σ[p]? = some (.arr sz g cs))
    (hl : bnd e 0 l lo) (hh : bnd e (len : Nat) h hi) (h0 : 0 ≤ l) (h1 : l ≤ h) (h2 : h ≤ len) : AOp P σ e o (.arr p g sz (off + l.toNat) (h.toNat - l.toNat)) σ :=
  .of_run fun s a hs _ hv => by
    subst hs
    have hxv := (opO_eq hx ▸ hv x (by simp [ho, Op.operands])).inv_arrC hσ
    have hl' := hl.ev (s := s) (a := a) (fun y hy => hv y (by subst hy; simp [ho, Op.operands]))
    have hh' := hh.ev (s := s) (a := a) (fun y hy => hv y (by subst hy; simp [ho, Op.operands]))
    obtain ⟨_, h3, h4, h5⟩ := hxv
    refine ⟨_, by simp only [execOp, ho, h3, Sem.run_bind, Option.map_none]; rw [run_slice_slice (cap := cap) hu hsz hl' hh' h0 h1 (by omega)]; rfl, ?_⟩
    refine .arr p g sz _ _ _ rfl ?_
    unfold ArrAt; rw [hσ]
    refine ⟨Nat.le_refl _, fun _ => ⟨rfl, ?_⟩⟩
    by_cases hcl : cap = l.toNat
    · have e1 : h.toNat - l.toNat = 0 := by omega
      have e2 : cap - l.toNat = 0 := by omega
      rw [e1, e2]
      exact .inl ⟨_, rfl, rfl⟩
    · refine .inr ⟨cap - l.toNat, ?_, by omega, ?_⟩
      · rw [if_neg hcl]; simp only [Option.map_some, add_none]; rw [Nat.add_mul, Nat.add_assoc]
      · rw [show off + l.toNat + (cap - l.toNat) = off + cap by omega]; exact h5
end
end Lg
set_option maxRecDepth 20000
set_option maxHeartbeats 4000000
namespace Lg
open Go Go.Proofs Go.RowKit
variable [GLay] 
theorem delV_c (rows : List (List AV)) (i p g : Nat) (σ : List AO) (hp : σ[p]? = some (.arr 8 g rows.flatten)) (hel : ∀ r ∈ rows, r.length = 8) (hone : ones rows.flatten = true) (hlt : ∀ n, AV.ltLL n rows) (hi : i < rows.length) (hn : rows.length ≤ 1000000) : ACalls Tryz.prog 44 [.arr p g 8 0 rows.length, .int .i64 (i : Int), .int .i64 ((i : Int) + 1)] σ (Ret (.sl false 8 (rows.take i ++ rows.drop (i + 1))) (σ.set p .dead)) := by
 refine ACalls_body Tryz.func44 rfl Tryz.ntmps44 (res1 Tryz.results44) (Nat.le_of_ble_eq_true rfl) (fun hcl hal => ?_)
 have hpl := (List.getElem?_eq_some_iff.1 hp).1
 have hAl : (rows.take i).flatten.length = i * 8 := tk_len hel (by omega)
 have hDl : (rows.drop (i + 1)).flatten.length = (rows.length - (i + 1)) * 8 := dr_len hel
 have hz0 : (0 + Int.toNat 0) * 8 + (((i : Int)).toNat - Int.toNat 0) * 8 = i * 8 := by omega
 have hfl : rows.flatten.length = rows.length * 8 := flatten_len hel
 refine zw1 ?_
 refine AWp_seq ?_
 refine AWp_reveal 0 p g 8 rows.length rfl hp hfl (by omega) (by decide) (by decide) (fun cap hcap => ?_)
 have hcl3 : (rows.flatten ++ List.replicate ((cap - rows.length) * 8) AV.any).length = rows.length * 8 + (cap - rows.length) * 8 := by rw [List.length_append, hfl, List.length_replicate]
 refine AWp_regL ?_
 refine zg4 ?_
 refine zt rfl (op_lenS rfl rfl Tryz.underlying25 rfl rfl ⟨_, _, get_set hpl⟩) ?_
 refine zt rfl (op_slice3C rfl Tryz.underlying25 Tryz.sizeOf28 rfl (get_set hpl) rfl rfl rfl (by omega) (by omega) (by omega) (by omega)) ?_
 refine zon ?_
 refine AWp_seq ?_
 refine zu2 ?_
 refine zt rfl (op_eqlF rfl rfl rfl (by omega)) ?_
 refine zon ?_
 refine AWp_condF rfl ?_
 refine AWp_skip ?_
 refine zu1 ?_
 refine zt rfl (op_lenS rfl rfl Tryz.underlying25 rfl rfl ⟨_, _, get_set hpl⟩) ?_
 refine zv1 ?_
 refine AWp_seq ?_
 refine AWp_drawL #[0, 0, 3, 0, 0, 24, 63, 127] Tryz.mixed (by decide +kernel) (by decide +kernel) ?_
 refine zd2 ?_
 refine yP rfl rfl (op_sliceC _ _ rfl Tryz.underlying25 Tryz.sizeOf28 rfl (get_set hpl) (by first | exact ⟨_, rfl⟩ | rfl) (by first | exact ⟨_, rfl⟩ | rfl) (by omega) (by omega) (by omega) (by omega)) (trivial) ?_
 refine zd2 ?_
 refine yP rfl rfl (op_sliceCA _ _ rfl Tryz.underlying25 Tryz.sizeOf28 rfl (get_set hpl) (by first | exact ⟨_, rfl⟩ | rfl) (by first | exact ⟨_, rfl⟩ | rfl) (by omega) (by omega) (by omega)) (trivial) ?_
 refine yE rfl rfl (op_appendIn (z := .nilIface) (sz := 8) (ds := (rows.drop (i + 1)).flatten) (yv := .arr p (g + 1) 8 (0 + ((i : Int) + 1).toNat) ((rows.length : Int).toNat - ((i : Int) + 1).toNat)) (m := (rows.length : Int).toNat - ((i : Int) + 1).toNat) rfl (.inr ⟨_, rfl⟩) Tryz.underlying25 Tryz.underlying25 Tryz.type28 rfl rfl (get_set hpl) (by decide) (by omega) rfl (src_rows2 (i := i + 1) (get_set hpl) hel (by omega) (by omega) (by omega)) (by rw [hDl]; omega) (ones_drop _ hone) (by omega) (by rw [hcl3]; omega)) (⟨.inl rfl, ⟨.inl rfl, trivial⟩⟩) (trivial) ?_
 refine zd1 ?_
 refine RP.nil rfl ?_
 refine AWp_seq ?_
 have hEl : ((rows.flatten ++ List.replicate ((cap - rows.length) * 8) AV.any).drop (i * 8 + (rows.drop (i + 1)).flatten.length)).length = rows.length * 8 + (cap - rows.length) * 8 - (i * 8 + (rows.length - (i + 1)) * 8) := by rw [List.length_drop, hcl3, hDl]
 refine AWp_heap (σ' := σ.set p (.arr 8 (g + 1) ((rows.take i).flatten ++ ((rows.drop (i + 1)).flatten ++ ((rows.flatten ++ List.replicate ((cap - rows.length) * 8) AV.any).drop (i * 8 + (rows.drop (i + 1)).flatten.length)))))) (by rw [List.set_set, hz0, del_cells hel (by omega)]) ?_
 have hcl4 : ((rows.take i).flatten ++ ((rows.drop (i + 1)).flatten ++ ((rows.flatten ++ List.replicate ((cap - rows.length) * 8) AV.any).drop (i * 8 + (rows.drop (i + 1)).flatten.length)))).length = i * 8 + ((rows.length - (i + 1)) * 8 + (rows.length * 8 + (cap - rows.length) * 8 - (i * 8 + (rows.length - (i + 1)) * 8))) := by rw [List.length_append, List.length_append, hEl, hAl, hDl]
 refine AWp_regL ?_
 refine zg2 ?_
 refine zt rfl (op_lenS rfl rfl Tryz.underlying25 rfl rfl ⟨_, _, get_set hpl⟩) ?_
 refine zg1 ?_
 refine zt rfl (op_sliceCB _ _ rfl Tryz.underlying25 Tryz.sizeOf28 rfl (get_set hpl) (by first | exact ⟨_, rfl⟩ | rfl) (by first | exact ⟨_, rfl⟩ | rfl) (by omega) (by omega) (by omega) (by omega)) ?_
 refine ztN rfl rfl (op_clearA (sz := 8) rfl rfl Tryz.underlying25 Tryz.zeroValue28 rfl (by decide) rfl (get_set hpl) (by omega) (by decide) (by rw [hcl4]; omega)) ?_
 refine zon ?_
 refine zw2 ?_
 have hAD : ((rows.take i).flatten ++ (rows.drop (i + 1)).flatten).length = (rows.length - 1) * 8 := by rw [List.length_append, hAl, hDl]; omega
 refine AWp_slotLe 6 rfl (AVle.capA _ _ _ _ _ _) ?_ (by decide)
 rw [List.set_set]
 refine AWp_freezeC 6 p (g + 1) 8 _ (rows.take i ++ rows.drop (i + 1)) rfl (get_set hpl) (by rw [List.flatten_append]; exact (del_fin2 hAD (by omega) (by omega)).symm) (del_el hel) (by rw [del_len hi]; omega) (by decide) (fit_of_take (by rw [del_fin2 hAD (by omega) (by omega), hAD]; omega)) ?_ (by decide)
 rw [List.set_set]
 refine zrt ?_
 exact ResQ_S0 (x := .dead) rfl hcl trivial (del_lt hlt _) (Ret_of rfl)
end Lg
set_option maxRecDepth 20000
set_option maxHeartbeats 4000000
namespace Lg
open Go Go.Proofs Go.RowKit
variable [GLay] 
theorem delM_c (rows : List (List AV)) (i p g : Nat) (σ : List AO) (hp : σ[p]? = some (.arr 9 g rows.flatten)) (hel : ∀ r ∈ rows, r.length = 9) (hone : ones rows.flatten = true) (hlt : ∀ n, AV.ltLL n rows) (hi : i < rows.length) (hn : rows.length ≤ 1000000) : ACalls Tryz.prog 45 [.arr p g 9 0 rows.length, .int .i64 (i : Int), .int .i64 ((i : Int) + 1)] σ (Ret (.sl false 9 (rows.take i ++ rows.drop (i + 1))) (σ.set p .dead)) := by
 refine ACalls_body Tryz.func45 rfl Tryz.ntmps45 (res1 Tryz.results45) (Nat.le_of_ble_eq_true rfl) (fun hcl hal => ?_)
 have hpl := (List.getElem?_eq_some_iff.1 hp).1
 have hAl : (rows.take i).flatten.length = i * 9 := tk_len hel (by omega)
 have hDl : (rows.drop (i + 1)).flatten.length = (rows.length - (i + 1)) * 9 := dr_len hel
 have hz0 : (0 + Int.toNat 0) * 9 + (((i : Int)).toNat - Int.toNat 0) * 9 = i * 9 := by omega
 have hfl : rows.flatten.length = rows.length * 9 := flatten_len hel
 refine zw1 ?_
 refine AWp_seq ?_
 refine AWp_reveal 0 p g 9 rows.length rfl hp hfl (by omega) (by decide) (by decide) (fun cap hcap => ?_)
 have hcl3 : (rows.flatten ++ List.replicate ((cap - rows.length) * 9) AV.any).length = rows.length * 9 + (cap - rows.length) * 9 := by rw [List.length_append, hfl, List.length_replicate]
 refine AWp_regL ?_
 refine zg4 ?_
 refine zt rfl (op_lenS rfl rfl Tryz.underlying26 rfl rfl ⟨_, _, get_set hpl⟩) ?_
 refine zt rfl (op_slice3C rfl Tryz.underlying26 Tryz.sizeOf64 rfl (get_set hpl) rfl rfl rfl (by omega) (by omega) (by omega) (by omega)) ?_
 refine zon ?_
 refine AWp_seq ?_
 refine zu2 ?_
 refine zt rfl (op_eqlF rfl rfl rfl (by omega)) ?_
 refine zon ?_
 refine AWp_condF rfl ?_
 refine AWp_skip ?_
 refine zu1 ?_
 refine zt rfl (op_lenS rfl rfl Tryz.underlying26 rfl rfl ⟨_, _, get_set hpl⟩) ?_
 refine zv1 ?_
 refine AWp_seq ?_
 refine AWp_drawL #[0, 0, 3, 0, 0, 24, 63, 127] Tryz.mixed (by decide +kernel) (by decide +kernel) ?_
 refine zd2 ?_
 refine yP rfl rfl (op_sliceC _ _ rfl Tryz.underlying26 Tryz.sizeOf64 rfl (get_set hpl) (by first | exact ⟨_, rfl⟩ | rfl) (by first | exact ⟨_, rfl⟩ | rfl) (by omega) (by omega) (by omega) (by omega)) (trivial) ?_
 refine zd2 ?_
 refine yP rfl rfl (op_sliceCA _ _ rfl Tryz.underlying26 Tryz.sizeOf64 rfl (get_set hpl) (by first | exact ⟨_, rfl⟩ | rfl) (by first | exact ⟨_, rfl⟩ | rfl) (by omega) (by omega) (by omega)) (trivial) ?_
 refine yE rfl rfl (op_appendIn (z := .nilIface) (sz := 9) (ds := (rows.drop (i + 1)).flatten) (yv := .arr p (g + 1) 9 (0 + ((i : Int) + 1).toNat) ((rows.length : Int).toNat - ((i : Int) + 1).toNat)) (m := (rows.length : Int).toNat - ((i : Int) + 1).toNat) rfl (.inr ⟨_, rfl⟩) Tryz.underlying26 Tryz.underlying26 Tryz.type64 rfl rfl (get_set hpl) (by decide) (by omega) rfl (src_rows2 (i := i + 1) (get_set hpl) hel (by omega) (by omega) (by omega)) (by rw [hDl]; omega) (ones_drop _ hone) (by omega) (by rw [hcl3]; omega)) (⟨.inl rfl, ⟨.inl rfl, trivial⟩⟩) (trivial) ?_
 refine zd1 ?_
 refine RP.nil rfl ?_
 refine AWp_seq ?_
 have hEl : ((rows.flatten ++ List.replicate ((cap - rows.length) * 9) AV.any).drop (i * 9 + (rows.drop (i + 1)).flatten.length)).length = rows.length * 9 + (cap - rows.length) * 9 - (i * 9 + (rows.length - (i + 1)) * 9) := by rw [List.length_drop, hcl3, hDl]
 refine AWp_heap (σ' := σ.set p (.arr 9 (g + 1) ((rows.take i).flatten ++ ((rows.drop (i + 1)).flatten ++ ((rows.flatten ++ List.replicate ((cap - rows.length) * 9) AV.any).drop (i * 9 + (rows.drop (i + 1)).flatten.length)))))) (by rw [List.set_set, hz0, del_cells hel (by omega)]) ?_
 have hcl4 : ((rows.take i).flatten ++ ((rows.drop (i + 1)).flatten ++ ((rows.flatten ++ List.replicate ((cap - rows.length) * 9) AV.any).drop (i * 9 + (rows.drop (i + 1)).flatten.length)))).length = i * 9 + ((rows.length - (i + 1)) * 9 + (rows.length * 9 + (cap - rows.length) * 9 - (i * 9 + (rows.length - (i + 1)) * 9))) := by rw [List.length_append, List.length_append, hEl, hAl, hDl]
 refine AWp_regL ?_
 refine zg2 ?_
 refine zt rfl (op_lenS rfl rfl Tryz.underlying26 rfl rfl ⟨_, _, get_set hpl⟩) ?_
 refine zg1 ?_
 refine zt rfl (op_sliceCB _ _ rfl Tryz.underlying26 Tryz.sizeOf64 rfl (get_set hpl) (by first | exact ⟨_, rfl⟩ | rfl) (by first | exact ⟨_, rfl⟩ | rfl) (by omega) (by omega) (by omega) (by omega)) ?_
 refine ztN rfl rfl (op_clearA (sz := 9) rfl rfl Tryz.underlying26 Tryz.zeroValue64 rfl (by decide) rfl (get_set hpl) (by omega) (by decide) (by rw [hcl4]; omega)) ?_
 refine zon ?_
 refine zw2 ?_
 have hAD : ((rows.take i).flatten ++ (rows.drop (i + 1)).flatten).length = (rows.length - 1) * 9 := by rw [List.length_append, hAl, hDl]; omega
 refine AWp_slotLe 6 rfl (AVle.capA _ _ _ _ _ _) ?_ (by decide)
 rw [List.set_set]
 refine AWp_freezeC 6 p (g + 1) 9 _ (rows.take i ++ rows.drop (i + 1)) rfl (get_set hpl) (by rw [List.flatten_append]; exact (del_fin2 hAD (by omega) (by omega)).symm) (del_el hel) (by rw [del_len hi]; omega) (by decide) (fit_of_take (by rw [del_fin2 hAD (by omega) (by omega), hAD]; omega)) ?_ (by decide)
 rw [List.set_set]
 refine zrt ?_
 exact ResQ_S0 (x := .dead) rfl hcl trivial (del_lt hlt _) (Ret_of rfl)
end Lg
set_option maxRecDepth 20000
set_option maxHeartbeats 4000000
namespace Lg
open Go Go.Proofs Go.RowKit
variable [GLay] 
theorem nanS_c (a : ByteArray) (σ : List AO) : ACalls Tryz.prog 109 [.str a] σ (Ret (.bool false) σ) := by
 refine ACalls_body Tryz.func109 rfl Tryz.ntmps109 (res1 Tryz.results109) (Nat.le_of_ble_eq_true rfl) (fun hcl hal => ?_)
 refine zw1 ?_
 refine zu2 ?_
 refine zt rfl (op_sneqF rfl rfl rfl rfl) ?_
 refine zv1 ?_
 refine zrt ?_
 exact ResQ_10 rfl hcl (by simp [AV.lt, AV.ltL]) ⟨rfl, rfl⟩

theorem cmpS_c (a b : ByteArray) (σ : List AO) : ACalls Tryz.prog 72 [.str a, .str b] σ (Ret (.int .i64 (cmpS a b)) σ) := by
 refine ACalls_body Tryz.func72 rfl Tryz.ntmps72 (res1 Tryz.results72) (Nat.le_of_ble_eq_true rfl) (fun hcl hal => ?_)
 refine zw1 ?_
 refine zu1 ?_
 refine zt rfl (zc rfl (nanS_c _ _)) ?_
 refine zv1 ?_
 refine zu1 ?_
 refine zt rfl (zc rfl (nanS_c _ _)) ?_
 refine zv1 ?_
 refine AWp_seq ?_
 refine zw1 ?_
 refine AWp_condF rfl ?_
 refine AWp_skip ?_
 refine AWp_seq ?_
 refine zw1 ?_
 refine AWp_condF rfl ?_
 refine AWp_skip ?_
 refine AWp_seq ?_
 refine zw3 ?_
 refine AWp_cond rfl (fun h1 => ?_) (fun h1 => ?_)
 ·(try rw [h1]); replace h1 := zcl h1
  refine zw1 ?_
  refine zrt ?_
  refine ResQ_10 rfl hcl trivial (Ret_of ?_)
  congr 1; unfold cmpS; first | (rw [if_pos (by assumption)]; done) | (rw [if_neg (by simp [*]), if_pos (by assumption)]; done) | (rw [if_neg (by rw [h1]; simp), if_neg (by rw [h2]; simp)]; done)
 ·(try rw [h1]); replace h1 := zcl h1
  refine AWp_skip ?_
  refine AWp_seq ?_
  refine zw3 ?_
  refine AWp_cond rfl (fun h2 => ?_) (fun h2 => ?_)
  ·(try rw [h2]); replace h2 := zcl h2
   refine zw1 ?_
   refine zrt ?_
   refine ResQ_10 rfl hcl trivial (Ret_of ?_)
   congr 1; unfold cmpS; first | (rw [if_pos (by assumption)]; done) | (rw [if_neg (by simp [*]), if_pos (by assumption)]; done) | (rw [if_neg (by rw [h1]; simp), if_neg (by rw [h2]; simp)]; done)
  ·(try rw [h2]); replace h2 := zcl h2
   refine AWp_skip ?_
   refine zw1 ?_
   refine zrt ?_
   refine ResQ_10 rfl hcl trivial (Ret_of ?_)
   congr 1; unfold cmpS; first | (rw [if_pos (by assumption)]; done) | (rw [if_neg (by simp [*]), if_pos (by assumption)]; done) | (rw [if_neg (by rw [h1]; simp), if_neg (by rw [h2]; simp)]; done)

theorem find1_c (q : BJ) (key : ByteArray) (cs : List AV) (σ : List AO) (hc : vcells q.2 = cs) : ACalls Tryz.prog 71 [.agg (.str q.1 :: cs), .str key] σ (Ret (.int .i64 (cmpS q.1 key)) σ) := by
 refine ACalls_body Tryz.func71 rfl Tryz.ntmps71 (res1 Tryz.results71) (Nat.le_of_ble_eq_true rfl) (fun hcl hal => ?_)
 subst hc
 rw [vcells_eq q.2]
 refine zw2 ?_
 refine zu3 ?_
 refine zt rfl (zc rfl (cmpS_c q.1 key _)) ?_
 refine zv1 ?_
 refine zrt ?_
 exact ResQ_1 rfl hcl (by simp [AV.lt, AV.ltL]) ⟨rfl, rfl⟩

theorem bsf_c (m : List BJ) (key : ByteArray) (σ : List AO) (hm : m.length ≤ 1000000) (hs : msorted m) : ACalls Tryz.prog 70 [.sl false 9 (mcells m), .str key, .func (.func 71) [] []] σ (Ret (.tup [.int .i64 (rinsK m key : Int), .bool (fnd m key)]) σ) := by
 refine ACalls_body Tryz.func70 rfl Tryz.ntmps70 (res2 Tryz.results70) (Nat.le_of_ble_eq_true rfl) (fun hcl hal => ?_)
 have hml := mcells_length m
 refine zw2 ?_
 refine zw3 ?_
 refine zw3 ?_
 refine AWp_seq ?_
 refine AWp_block ?_
 -- loop 0 LIVE 0:param 1:param 2:param 6:assign 7:assign 8:assign 9:assign 10:assign
 refine AWp_loop (ι := Nat × Nat) (fun z => z.1 ≤ z.2 ∧ z.2 ≤ m.length ∧ (∀ (j : Nat) q, j < z.1 → m[j]? = some q → blt q.1 key = true) ∧ (∀ (j : Nat) q, z.2 ≤ j → m[j]? = some q → blt q.1 key = false)) (fun z => ⟨[], [(0, .sl false 9 (mcells m)), (1, .str key), (2, .func (.func 71) [] []), (6, .int .i64 0), (7, .bool false), (8, .int .i64 ((mcells m).length : Int)), (9, .int .i64 (z.1 : Int)), (10, .int .i64 (z.2 : Int))]⟩) (fun z => σ) (fun z => z.2 - z.1) ((0, m.length)) (⟨Nat.zero_le _, Nat.le_refl _, fun j q h => by omega, fun j q h hq => by have := (List.getElem?_eq_some_iff.1 hq).1; omega⟩) ?_ rfl (fun z hz => ?_)
 ·refine ⟨rfl, rfl, rfl, rfl, rfl, rfl, rfl, rfl, ?_, trivial⟩
  rw [← hml]; rfl
 obtain ⟨lo, hi⟩ := z
 obtain ⟨hz1, hz2, hz3, hz4⟩ := hz
 simp only at hz1 hz2 hz3 hz4 ⊢
 refine AWp_seq ?_
 refine zw3 ?_
 refine AWp_cond rfl (fun h1 => ?_) (fun h1 => ?_)
 ·(try rw [h1]); replace h1 := zcl h1
  obtain ⟨q, hq⟩ : ∃ q, m[(lo + hi) / 2]? = some q := ⟨_, List.getElem?_eq_getElem (show (lo + hi) / 2 < m.length by omega)⟩
  refine AWp_skip ?_
  refine AWp_block ?_
  refine zu3 ?_
  refine zt rfl (op_convIn rfl (by rw [Tryz.underlying3]; rfl) Tryz.underlying148 rfl (wrapu64_in (by omega) (by omega))) ?_
  refine zt rfl (op_shr (r := ((lo : Int) + (hi : Int)) / 2) rfl rfl rfl (by decide) rfl) ?_
  refine zt rfl (op_convIn rfl (by rw [Tryz.underlying148]; rfl) Tryz.underlying3 rfl (wrap64_in (by omega) (by omega))) ?_
  refine zv1 ?_
  refine AWp_seq ?_
  rw [show ((lo : Int) + (hi : Int)) / 2 = (((lo + hi) / 2 : Nat) : Int) by omega]
  refine AWp_regL ?_
  refine zg4 ?_
  rw [vcells_eq q.2]
  refine zg2 ?_
  refine zt rfl (zc rfl (find1_c q key _ _ (vcells_eq q.2))) ?_
  refine zv1 ?_
  refine AWp_cond rfl (fun h2 => ?_) (fun h2 => ?_)
  ·(try rw [h2]); replace h2 := zcl h2
   refine AWp_regL ?_
   refine zv3 ?_
   have hb2 := cmpS_neg.1 h2
   refine ⟨((lo + hi) / 2 + 1, hi), σ.length, ⟨by simp only; omega, hz2, fun j p hj hp => ?_, hz4⟩, by simp only; omega, Nat.le_refl _, ⟨rfl, rfl, rfl, rfl, rfl, rfl, rfl, rfl, rfl, trivial⟩, hcl, ?_, List.take_length⟩
   ·by_cases hje : j = (lo + hi) / 2
    ·subst hje; rw [hq] at hp; cases hp; exact hb2
    ·exact blt_trans (ms_get hs (by simp only at hj; omega) hp hq) hb2
   ·simp [ltE, AV.lt, AV.ltL, AV.ltLL]
  ·(try rw [h2]); replace h2 := zcl h2
   refine AWp_regL ?_
   refine zv2 ?_
   have hb2 : blt q.1 key = false := by cases hbx : blt q.1 key with | false => rfl | true => exact absurd (cmpS_neg.2 hbx) (by omega)
   refine ⟨(lo, (lo + hi) / 2), σ.length, ⟨by simp only; omega, by simp only; omega, hz3, fun j p hj hp => ?_⟩, by simp only; omega, Nat.le_refl _, ⟨rfl, rfl, rfl, rfl, rfl, rfl, rfl, rfl, rfl, trivial⟩, hcl, ?_, List.take_length⟩
   ·by_cases hje : j = (lo + hi) / 2
    ·subst hje; rw [hq] at hp; cases hp; exact hb2
    ·cases hbx : blt p.1 key with
     | false => rfl
     | true => rw [blt_trans (ms_get hs (by simp only at hj; omega) hq hp) hbx] at hb2; cases hb2
   ·simp [ltE, AV.lt, AV.ltL, AV.ltLL]
 ·(try rw [h1]); replace h1 := zcl h1
  refine AWp_exit ?_
  refine AWp_seq ?_
  have hk := rinsK_bel (key := key) (m := m) (k := lo) (by omega) hz3 (fun j q hj => hz4 j q (by omega))
  refine AWp_regL ?_
  refine zg5 ?_
  refine zsp 39 rfl (fun h3 => ?_) fun h3 => ?_
  ·rw [h3]; replace h3 := zcl h3
   obtain ⟨q, hq⟩ : ∃ q, m[lo]? = some q := ⟨_, List.getElem?_eq_getElem (show lo < m.length by omega)⟩
   refine zg4 ?_
   (try rw [vcells_eq q.2])
   refine zg2 ?_
   refine ztG rfl rfl (zc rfl (find1_c q key _ _ (vcells_eq q.2))) ?_
   refine zv4 ?_
   refine zrt ?_
   have hb3 := hz4 lo q (by omega) hq
   have hf : fnd m key = decide (cmpS q.1 key = 0) := by unfold fnd; rw [hk, hq]; simp only; exact decide_eq_decide.2 ⟨fun h => cmpS_zero.2 ⟨h, hb3⟩, fun h => (cmpS_zero.1 h).1⟩
   rw [hk, hf]
   exact ResQ_20 rfl rfl hcl (by simp [AV.lt, AV.ltL]) (Ret_of rfl)
  ·rw [h3]; replace h3 := zcl h3
   refine zg4 ?_
   (try rw [vcells_eq q.2])
   refine zv7 ?_
   refine zrt ?_
   have hf : fnd m key = false := by unfold fnd; rw [hk, List.getElem?_eq_none (by omega)]
   rw [hk, hf]
   exact ResQ_20 rfl rfl hcl (by simp [AV.lt, AV.ltL]) (Ret_of rfl)
end Lg
namespace Lg
open Go
end Lg
set_option maxRecDepth 20000
set_option maxHeartbeats 4000000
namespace Lg
open Go Go.Proofs Go.RowKit
variable [GLay] 
theorem mrow_ones (q : BJ) : ones (mrow q) = true := by rw [mrow, vcells_eq]; rfl
theorem mrow_lt (n : Nat) (q : BJ) : AV.ltL n (mrow q) := ⟨trivial, vcells_lt n q.2⟩
theorem cloneL_o (f : Bool) (v : List JV) (n : Nat) (σ l : List AO) (hl : l.length = n) (hv : v.length ≤ 1000000) : ACalls Tryz.prog 39 [.sl f 8 (lcells v)] (σ ++ l) (Ret (.arr (σ.length + n) 0 8 0 v.length) (σ ++ (l ++ [.arr 8 0 (lcells v).flatten]))) := by
  have h := cloneV_c f (lcells v) (σ ++ l) (lrow_len v) (lflat_ones v) (fun n => lflat_lt n v) (by rw [lcells_length]; exact hv)
  rw [List.length_append, hl, lcells_length, List.append_assoc] at h; exact h
theorem insL_o (v : List JV) (x : JV) (r : List AV) (hr : vcells x = r) (i k g : Nat) (σ l : List AO) (hk : l[k]? = some (.arr 8 g (lcells v).flatten)) (hi : i ≤ v.length) (hv : v.length ≤ 1000000) : ACalls Tryz.prog 38 [.arr (σ.length + k) g 8 0 v.length, .int .i64 (i : Int), .sl true 8 [r]] (σ ++ l) (Ret (.sl false 8 (lcells (v.take i ++ x :: v.drop i))) (σ ++ l.set k .dead)) := by
  subst hr
  have h := insV_c (lcells v) (vcells x) i (σ.length + k) g (σ ++ l) (by rw [get_own]; exact hk) (lrow_len v) (vlen x) (lflat_ones v) (vcells_ones x) (fun n => lcells_lt n v) (fun n => vcells_lt n x) (by rw [lcells_length]; exact hi) (by rw [lcells_length]; exact hv)
  rw [lcells_length, set_own] at h
  rw [show lcells (v.take i ++ x :: v.drop i) = (lcells v).take i ++ vcells x :: (lcells v).drop i by simp [lcells_eq]]; exact h
theorem delL_o (v : List JV) (i k g : Nat) (σ l : List AO) (hk : l[k]? = some (.arr 8 g (lcells v).flatten)) (hi : i < v.length) (hv : v.length ≤ 1000000) : ACalls Tryz.prog 44 [.arr (σ.length + k) g 8 0 v.length, .int .i64 (i : Int), .int .i64 ((i : Int) + 1)] (σ ++ l) (Ret (.sl false 8 (lcells (v.take i ++ v.drop (i + 1)))) (σ ++ l.set k .dead)) := by
  have h := delV_c (lcells v) i (σ.length + k) g (σ ++ l) (by rw [get_own]; exact hk) (lrow_len v) (lflat_ones v) (fun n => lcells_lt n v) (by rw [lcells_length]; exact hi) (by rw [lcells_length]; exact hv)
  rw [lcells_length, set_own] at h
  rw [show lcells (v.take i ++ v.drop (i + 1)) = (lcells v).take i ++ (lcells v).drop (i + 1) by simp [lcells_eq]]; exact h
theorem cloneM_o (f : Bool) (v : List BJ) (n : Nat) (σ l : List AO) (hl : l.length = n) (hv : v.length ≤ 1000000) : ACalls Tryz.prog 41 [.sl f 9 (mcells v)] (σ ++ l) (Ret (.arr (σ.length + n) 0 9 0 v.length) (σ ++ (l ++ [.arr 9 0 (mcells v).flatten]))) := by
  have h := cloneM_c f (mcells v) (σ ++ l) (mrows_len v) (mones v) (fun n => mflat_lt n v) (by rw [mcells_length]; exact hv)
  rw [List.length_append, hl, mcells_length, List.append_assoc] at h; exact h
theorem insM_o (v : List BJ) (x : BJ) (r : List AV) (hr : mrow x = r) (i k g : Nat) (σ l : List AO) (hk : l[k]? = some (.arr 9 g (mcells v).flatten)) (hi : i ≤ v.length) (hv : v.length ≤ 1000000) : ACalls Tryz.prog 42 [.arr (σ.length + k) g 9 0 v.length, .int .i64 (i : Int), .sl true 9 [r]] (σ ++ l) (Ret (.sl false 9 (mcells (v.take i ++ x :: v.drop i))) (σ ++ l.set k .dead)) := by
  subst hr
  have h := insM_c (mcells v) (mrow x) i (σ.length + k) g (σ ++ l) (by rw [get_own]; exact hk) (mrows_len v) (mrow_len x) (mones v) (mrow_ones x) (fun n => mcells_lt n v) (fun n => mrow_lt n x) (by rw [mcells_length]; exact hi) (by rw [mcells_length]; exact hv)
  rw [mcells_length, set_own] at h
  rw [show mcells (v.take i ++ x :: v.drop i) = (mcells v).take i ++ mrow x :: (mcells v).drop i by simp [mcells_map]]; exact h
theorem delM_o (v : List BJ) (i k g : Nat) (σ l : List AO) (hk : l[k]? = some (.arr 9 g (mcells v).flatten)) (hi : i < v.length) (hv : v.length ≤ 1000000) : ACalls Tryz.prog 45 [.arr (σ.length + k) g 9 0 v.length, .int .i64 (i : Int), .int .i64 ((i : Int) + 1)] (σ ++ l) (Ret (.sl false 9 (mcells (v.take i ++ v.drop (i + 1)))) (σ ++ l.set k .dead)) := by
  have h := delM_c (mcells v) i (σ.length + k) g (σ ++ l) (by rw [get_own]; exact hk) (mrows_len v) (mones v) (fun n => mcells_lt n v) (by rw [mcells_length]; exact hi) (by rw [mcells_length]; exact hv)
  rw [mcells_length, set_own] at h
  rw [show mcells (v.take i ++ v.drop (i + 1)) = (mcells v).take i ++ (mcells v).drop (i + 1) by simp [mcells_map]]; exact h
theorem efind_c (v : JV) (key : ByteArray) (cs : List AV) (σ : List AO) (hc : vcells v = cs) (hm : v.m.length ≤ 1000000) (hs : msorted v.m) : ACalls Tryz.prog 40 [.agg cs, .str key] σ (Ret (.tup [.int .i64 (rinsK v.m key : Int), .bool (fnd v.m key)]) σ) := by
 refine ACalls_body Tryz.func40 rfl Tryz.ntmps40 (res2 Tryz.results40) (Nat.le_of_ble_eq_true rfl) (fun hcl hal => ?_)
 subst hc
 rw [vcells_eq v]
 refine zw3 ?_
 refine zu3 ?_
 refine zt rfl (zc rfl (bsf_c v.m key _ hm hs)) ?_
 refine zv4 ?_
 refine zrt ?_
 exact ResQ_2 rfl rfl hcl (by simp [AV.lt, AV.ltL]) (Ret_of rfl)
end Lg
namespace Lg
open Go Go.RowKit
theorem putAt_ok : ∀ {ns cs : List AV}, ns.length ≤ cs.length → putAt cs ns = some (ns ++ cs.drop ns.length)
  | [], cs, _ => by cases cs <;> simp [putAt]
  | n :: ns, [], h => by simp at h
  | n :: ns, c :: cs, h => by
    have := putAt_ok (ns := ns) (cs := cs) (by simpa using h)
    simp [putAt, this]
theorem spl_ok : ∀ {off : Nat} {cs ns : List AV}, off + ns.length ≤ cs.length → spl off cs ns = some (cs.take off ++ ns ++ cs.drop (off + ns.length))
  | 0, cs, ns, h => by simp only [spl, List.take_zero, List.nil_append, Nat.zero_add]; exact putAt_ok (by omega)
  | k + 1, [], ns, h => by simp at h
  | k + 1, c :: cs, ns, h => by
    have := spl_ok (off := k) (cs := cs) (ns := ns) (by simp only [List.length_cons] at h; omega)
    rw [spl, this, show k + 1 + ns.length = (k + ns.length) + 1 by omega]; rfl
variable [GLay]
theorem op_storeElK {P : Program} {σ l : List AO} {e : Env} {o : Oper} {T : TypeId} {x y : Operand} {j g sz off n : Nat} {cs vs : List AV} (ho : o.op = .store T x y) (hz : ∀ w, (Go.sizeOf T).run P w = Result.ok n w) (hy : opO e y = some (.agg vs)) (hx : opO e x = some (.pel (σ.length + j) g off))
    (hl : l[j]? = some (.arr sz g cs)) (hn : vs.length = n) (h1 : ones vs = true) (hn0 : n ≠ 0) (hfit : off + vs.length ≤ cs.length) : AOp P (σ ++ l) e o .any (σ ++ l.set j (.arr sz g (cs.take off ++ vs ++ cs.drop (off + vs.length)))) := by
  have e1 := opO_eq hy
  have := op_store (P := P) (σ := σ ++ l) (e := e) (p := σ.length + j) (O := .arr sz g (cs.take off ++ vs ++ cs.drop (off + vs.length))) ho hz (by rw [e1]; exact hn) (by rw [e1]; exact h1) (by
    rw [e1, opO_eq hx]
    show stv (σ ++ l) vs (.pel (σ.length + j) g off) = _
    simp only [stv, get_own, hl, if_true, spl_ok hfit, Option.map_some]) hn0
  rwa [set_own] at this
theorem rows_set {sz : Nat} {rows : List (List AV)} {i : Nat} {r : List AV} (hel : ∀ r ∈ rows, r.length = sz) (hi : i < rows.length) (hr : r.length = sz) :
    rows.flatten.take (i * sz) ++ r ++ rows.flatten.drop (i * sz + r.length) = (rows.set i r).flatten := by
  have e : rows.set i r = rows.take i ++ r :: rows.drop (i + 1) := List.set_eq_take_append_cons_drop ▸ by simp [hi]
  rw [e]
  conv => lhs; arg 1; arg 1; rw [rows_split i, List.take_left' (tk_len hel (by omega))]
  conv => lhs; arg 2; rw [rows_split (i + 1), hr, List.drop_left' (by rw [tk_len hel (by omega), Nat.add_mul, Nat.one_mul])]
  simp
theorem lset_cells {v : List JV} {x : JV} {i : Nat} (hi : i < v.length) : (lcells v).flatten.take (i * 8) ++ vcells x ++ (lcells v).flatten.drop (i * 8 + (vcells x).length) = (lcells (v.set i x)).flatten := by
  rw [rows_set (lrow_len v) (by rw [lcells_length]; exact hi) (vlen x), lcells_eq, lcells_eq, List.map_set]
theorem mset_cells {m : List BJ} {q : BJ} {x : JV} {i : Nat} (hq : m[i]? = some q) : (mcells m).flatten.take (i * 9 + 1) ++ vcells x ++ (mcells m).flatten.drop (i * 9 + 1 + (vcells x).length) = (mcells (m.set i (q.1, x))).flatten := by
  have hi := (List.getElem?_eq_some_iff.1 hq).1
  have h := rows_set (r := mrow (q.1, x)) (mrows_len m) (by rw [mcells_length]; exact hi) (mrow_len _)
  rw [mcells_map (m.set i _), List.map_set, ← mcells_map, ← h, mrow_len]
  have hs : (mcells m).flatten.take (i * 9 + 1) = (mcells m).flatten.take (i * 9) ++ [.str q.1] := by
    rw [List.take_add_one]
    congr 1
    have e : (mcells m).flatten[i * 9]? = some (.str q.1) := by
      rw [rows_split i, List.getElem?_append_right (by rw [tk_len (mrows_len m) (by rw [mcells_length]; omega)]; exact Nat.le_refl _), tk_len (mrows_len m) (by rw [mcells_length]; omega), Nat.sub_self]
      have hd : (mcells m).drop i = mrow q :: (mcells m).drop (i + 1) := by
        rw [mcells_map, List.drop_eq_getElem_cons (by simpa using hi)]
        congr 1
        rw [List.getElem_map, (List.getElem?_eq_some_iff.1 hq).2]
      rw [hd]; rfl
    rw [e]; rfl
  rw [hs, vlen, mrow, show i * 9 + 1 + 8 = i * 9 + 9 by omega]
  simp
end Lg
set_option maxRecDepth 20000
set_option maxHeartbeats 4000000
namespace Lg
open Go Go.Proofs Go.RowKit
variable [GLay] 
def gerr (b : Bool) : AV := if b = true then .nili else .iface 69 (.int .i64 6)
theorem rget_c : ∀ (l : List BL) (f : Bool) (v : JV) (cs : List AV) (σ : List AO), (∀ nm ∈ l, nm.length ≤ 1000000) → vcells v = cs → jb v → ACalls Tryz.prog 20 [.agg cs, .sl f 1 (srow l)] σ (Ret (.tup [.agg (vcells (jget l v).1), .bool (jget l v).2]) σ)
  | [], f, v, cs, σ, _, hc, _ => rget_0 f v cs σ hc
  | nm :: r, f, v, cs, σ, hl, hc, hb => rget_1 r (by
      rintro v cs es σ hc rfl hb
      exact rget_c r false v cs σ (fun n hn => hl n (List.mem_cons_of_mem _ hn)) hc hb) f nm v cs σ hc hb (hl nm (List.mem_cons_self ..))
theorem drop_cons {α : Type} {l : List α} {i : Nat} {x : α} (h : l[i]? = some x) : l.drop i = x :: l.drop (i + 1) := by
  have hi := (List.getElem?_eq_some_iff.1 h).1
  rw [List.drop_eq_getElem_cons hi]; congr 1
  have := List.getElem?_eq_getElem hi
  rw [h] at this; exact (Option.some.inj this).symm
theorem pget_c (l : List BL) (f : Bool) (v : JV) (cs : List AV) (σ : List AO) (hll0 : l.length ≤ 2000000) (hl : ∀ nm ∈ l, nm.length ≤ 1000000) (hc : vcells v = cs) (hjb : jb v) : ACalls Tryz.prog 78 [.agg cs, .sl f 1 (srow l)] σ (Ret (.tup [.agg (vcells (jget l v).1), gerr (jget l v).2]) σ) := by
 refine ACalls_bodyC Tryz.func78 rfl Tryz.ntmps78 (by rw [Tryz.results78]; exact (.ck Tryz.isAgg28 Tryz.sizeOf28 (.t .nil))) (Nat.le_of_ble_eq_true rfl) (fun hcl hal => ?_)
 subst hc
 rw [vcells_eq v]
 have hsl := srow_len l
 refine zw3 ?_
 refine AWp_seq ?_
 refine zw3 ?_
 refine AWp_block ?_
 -- loop 0 LIVE 2:box 4:alloc 5:assign 12:move 13:call 14:move
 refine AWp_loop (ι := Nat × JV) (fun z => z.1 ≤ l.length ∧ jb z.2 ∧ jget (l.drop z.1) z.2 = jget l v) (fun z => ⟨[], [(2, .ptr (σ.length + 0) 0), (4, .ptr (σ.length + 1) 0), (5, .nili), (12, .sl f 1 (srow l)), (13, .int .i64 ((srow l).length : Int)), (14, .int .i64 (z.1 : Int))]⟩) (fun z => σ ++ [.box [.int .i64 z.2.kind, .bool z.2.b, .bool z.2.n.neg, .str z.2.n.digits, .int .i64 z.2.n.exp, .str z.2.s, .sl false 8 (lcells z.2.l), .sl false 9 (mcells z.2.m)], .box [.int .i64 0, .bool false, .bool false, .str ⟨#[]⟩, .int .i64 0, .str ⟨#[]⟩, .nils, .nils]]) (fun z => l.length - z.1) ((0, v)) (⟨Nat.zero_le _, hjb, by rw [List.drop_zero]⟩) ?_ rfl (fun z hz => ?_)
 ·exact ⟨rfl, rfl, rfl, rfl, rfl, rfl, rfl, trivial⟩
 obtain ⟨i, u⟩ := z
 obtain ⟨hz1, hz2, hz3⟩ := hz
 simp only at hz1 hz2 hz3 ⊢
 obtain ⟨hb1, hb2, hb3, hb4, hb5, hb6⟩ := (jb_eq u).1 hz2
 have hll := lcells_length u.l
 have hix : ∀ (nm : BL) (τ : List AO), nm.length ≤ 1000000 → ACalls Tryz.prog 37 [.str (ba nm), .int .i64 ((lcells u.l).length : Int), .bool false] τ (Ret (.tup [.int .i64 (jixN nm u.l.length false), .bool (jixO nm u.l.length false)]) τ) := by
  intro nm τ hm; rw [hll]; exact pidx_c nm u.l.length false τ hm (by omega)
 refine zw1 ?_
 refine AWp_seq ?_
 refine AWp_cond rfl (fun h1 => ?_) (fun h1 => ?_)
 ·(try rw [h1]); replace h1 := zcl h1
  obtain ⟨nm, hx⟩ : ∃ nm, l[i]? = some nm := ⟨_, List.getElem?_eq_getElem (show i < l.length by omega)⟩
  have hnm := hl nm (List.mem_of_getElem? hx)
  have hrow : (srow l)[i]? = some [.str (ba nm)] := by simp [srow, hx]
  rw [drop_cons hx] at hz3
  refine AWp_skip ?_
  refine AWp_seq ?_
  refine AWp_block ?_
  refine zsr ?_
  refine zt rfl (op_indexAddr rfl Tryz.underlying31 Tryz.sizeOf9 rfl rfl (by omega) (hrow)) ?_
  refine zv2 ?_
  refine AWp_seq ?_
  refine zw3 ?_
  refine AWp_cond rfl (fun h2 => ?_) (fun h2 => ?_)
  ·(try rw [h2]); replace h2 := zcl h2
   refine zu4 ?_
   refine zt rfl (zc rfl (hix nm _ hnm)) ?_
   refine zv5 ?_
   refine AWp_seq ?_
   refine zw2 ?_
   refine AWp_cond rfl (fun h3 => ?_) (fun h3 => ?_)
   ·(try rw [h3]); replace h3 := zcl h3
    refine zw4 ?_
    refine AWp_boxLeO 1 (bs' := [.int .i64 vz.kind, .bool vz.b, .bool vz.n.neg, .str vz.n.digits, .int .i64 vz.n.exp, .str vz.s, .sl false 8 (lcells vz.l), .sl false 9 (mcells vz.m)]) rfl ⟨AVle.refl _, AVle.refl _, AVle.refl _, AVle.refl _, AVle.refl _, AVle.refl _, nilL, nilM, trivial⟩ ?_
    refine zrt ?_
    rw [← hz3, jget_no4 h2 (by simpa using h3), vcells_eq]
    exact RQ_ret (rkvs_cons (rkv_ck rfl rfl rfl) (rkvs_cons (rkv_t rfl) rfl)) hcl (by simp [rks, AV.lt, AV.ltL, gerr]) ⟨rfl, rfl⟩
   ·(try rw [h3]); replace h3 := zcl h3
    obtain ⟨k, hk, hkl⟩ := jix_nat (nm := nm) (n := u.l.length) (by simpa using h3)
    obtain ⟨a, ha⟩ : ∃ a, u.l[k]? = some a := ⟨_, List.getElem?_eq_getElem hkl⟩
    rw [hk]
    refine AWp_skip ?_
    refine zu4 ?_
    rw [vcells_eq a]
    refine zv2 ?_
    refine AWp_exit ?_
    refine AWp_regL ?_
    refine zv2 ?_
    refine ⟨(i + 1, a), σ.length + 2, ⟨by simp only; omega, lb_get hb5 ha, ?_⟩, by simp only; omega, by simp, ⟨rfl, rfl, rfl, rfl, rfl, rfl, rfl, trivial⟩, closed_own 2 hcl ?_, ?_, ?_⟩
    ·simp only; rw [← hz3, jget_4 h2 (by simpa using h3) hk ha]
    ·simp [ownLt, AO.cells, AV.ltL, AV.lt]
    ·simp [ltE, AV.lt, AV.ltL]
    ·exact take_own 2
  ·(try rw [h2]); replace h2 := zcl h2
   refine AWp_skip ?_
   refine zu2 ?_
   refine zt rfl (zc rfl (findQ_c u (ba nm) _ _ (vcells_eq u) hb4)) ?_
   rw [vcells_eq (jfD u (ba nm))]
   refine zv6 ?_
   refine AWp_seq ?_
   refine zw2 ?_
   refine AWp_cond rfl (fun h4 => ?_) (fun h4 => ?_)
   ·(try rw [h4]); replace h4 := zcl h4
    refine zw4 ?_
    refine AWp_boxLeO 1 (bs' := [.int .i64 vz.kind, .bool vz.b, .bool vz.n.neg, .str vz.n.digits, .int .i64 vz.n.exp, .str vz.s, .sl false 8 (lcells vz.l), .sl false 9 (mcells vz.m)]) rfl ⟨AVle.refl _, AVle.refl _, AVle.refl _, AVle.refl _, AVle.refl _, AVle.refl _, nilL, nilM, trivial⟩ ?_
    refine zrt ?_
    rw [← hz3, jget_no5 h2 (by simpa using h4), vcells_eq]
    exact RQ_ret (rkvs_cons (rkv_ck rfl rfl rfl) (rkvs_cons (rkv_t rfl) rfl)) hcl (by simp [rks, AV.lt, AV.ltL, gerr]) ⟨rfl, rfl⟩
   ·(try rw [h4]); replace h4 := zcl h4
    refine AWp_skip ?_
    refine AWp_regL ?_
    refine zv2 ?_
    refine AWp_regL ?_
    refine zv2 ?_
    refine ⟨(i + 1, jfD u (ba nm)), σ.length + 2, ⟨by simp only; omega, jfD_jb hz2, ?_⟩, by simp only; omega, by simp, ⟨rfl, rfl, rfl, rfl, rfl, rfl, rfl, trivial⟩, closed_own 2 hcl ?_, ?_, ?_⟩
    ·simp only; rw [← hz3, jget_5 h2 (by simpa using h4)]
    ·simp [ownLt, AO.cells, AV.ltL, AV.lt]
    ·simp [ltE, AV.lt, AV.ltL]
    ·exact take_own 2
 ·(try rw [h1]); replace h1 := zcl h1
  refine AWp_exit ?_
  refine AWp_seq ?_
  have hie : i = l.length := by omega
  subst hie
  rw [List.drop_length] at hz3
  refine AWp_regL ?_
  refine zv3 ?_
  refine zrt ?_
  rw [← hz3, jget, vcells_eq u]
  exact RQ_ret (rkvs_cons (rkv_ck rfl rfl rfl) (rkvs_cons (rkv_t rfl) rfl)) hcl (by simp [rks, AV.lt, AV.ltL, gerr]) ⟨rfl, rfl⟩
end Lg
set_option maxRecDepth 20000
set_option maxHeartbeats 4000000
namespace Lg
open Go Go.Proofs Go.RowKit
variable [GLay] 
theorem op_neGerr {P : Program} {σ : List AO} {e : Env} {o : Oper} {T T' : TypeId} {x : Operand} {ms : Array (String × TypeId)} {z : Bool} (ho : o.op = .binOp .neq T x (.const .nilIface) T') (hu : P.underlying T = some (.interface ms)) (hx : opO e x = some (gerr z)) : AOp P σ e o (.bool (!z)) σ := by
  cases z with
  | true => exact op_neINil ho hu hx
  | false => exact op_neIN ho hu hx
theorem gerr_lt (n : Nat) (b : Bool) : (gerr b).lt n := by cases b <;> simp [gerr, AV.lt]
theorem with_0 (kf : Nat) (fn : Go.Func) (caps : List AV) (hfn : Tryz.prog.funcs[kf]? = some fn) (hname : (fn.name == "runtime.NumGoroutine") = false) (hbd : fn.body.isNone = false) (g : JV → JV × Bool) (hf : ∀ (v : JV) (cs : List AV) (τ : List AO), vcells v = cs → jb v → jst v → ACalls Tryz.prog kf ([.agg cs] ++ caps) τ (Ret (.tup [.agg (vcells (g v).1), gerr (g v).2]) τ)) (f : Bool) (v : JV) (cs : List AV) (σ : List AO) (hc : vcells v = cs) (hjb : jb v) (hmay : jst v) : ACalls Tryz.prog 35 [.agg cs, .sl f 1 (srow []), .func (.func kf) [] caps] σ (Ret (.tup [.agg (vcells (pwi g [] v).1), gerr (pwi g [] v).2]) σ) := by
 refine ACalls_bodyC Tryz.func35 rfl Tryz.ntmps35 (by rw [Tryz.results35]; exact (.ck Tryz.isAgg28 Tryz.sizeOf28 (.t .nil))) (Nat.le_of_ble_eq_true rfl) (fun hcl hal => ?_)
 subst hc
 rw [vcells_eq v]
 refine zw3 ?_
 refine AWp_seq ?_
 refine zu2 ?_
 refine zt rfl (op_eqlT rfl rfl rfl rfl) ?_
 refine zon ?_
 refine AWp_condT rfl ?_
 refine zu2 ?_
 refine zt rfl (op_callF rfl rfl rfl hfn hname hbd (hf v _ _ (vcells_eq v) hjb hmay)) ?_
 rw [vcells_eq (g v).1]
 refine zv4 ?_
 refine zrt ?_
 rw [pwi, vcells_eq (g v).1]
 exact RQ_ret (rkvs_cons (rkv_ck rfl rfl rfl) (rkvs_cons (rkv_t rfl) rfl)) hcl (by simp [rks, AV.lt, AV.ltL, gerr_lt]) ⟨rfl, rfl⟩

theorem with_4 (kf : Nat) (fn : Go.Func) (caps : List AV) (hfn : Tryz.prog.funcs[kf]? = some fn) (hname : (fn.name == "runtime.NumGoroutine") = false) (hbd : fn.body.isNone = false) (g : JV → JV × Bool) (hf : ∀ (v : JV) (cs : List AV) (τ : List AO), vcells v = cs → jb v → jst v → ACalls Tryz.prog kf ([.agg cs] ++ caps) τ (Ret (.tup [.agg (vcells (g v).1), gerr (g v).2]) τ)) (r : List BL) (ih : ∀ (v : JV) (cs : List AV) (es : List (List AV)) (σ : List AO), vcells v = cs → es = srow r → jb v → jst v → ACalls Tryz.prog 35 [.agg cs, .sl false 1 es, .func (.func kf) [] caps] σ (Ret (.tup [.agg (vcells (pwi g r v).1), gerr (pwi g r v).2]) σ)) (f : Bool) (nm : BL) (v : JV) (cs : List AV) (σ : List AO) (hc : vcells v = cs) (hjb : jb v) (hmay : jst v) (hnm : nm.length ≤ 1000000) (hk4 : v.kind = 4) : ACalls Tryz.prog 35 [.agg cs, .sl f 1 (srow (nm :: r)), .func (.func kf) [] caps] σ (Ret (.tup [.agg (vcells (pwi g (nm :: r) v).1), gerr (pwi g (nm :: r) v).2]) σ) := by
 refine ACalls_bodyC Tryz.func35 rfl Tryz.ntmps35 (by rw [Tryz.results35]; exact (.ck Tryz.isAgg28 Tryz.sizeOf28 (.t .nil))) (Nat.le_of_ble_eq_true rfl) (fun hcl hal => ?_)
 subst hc
 obtain ⟨hb1, hb2, hb3, hb4, hb5, hb6⟩ := (jb_eq v).1 hjb
 have hll := lcells_length v.l
 have hml := mcells_length v.m
 have hsl : 1 ≤ (srow (nm :: r)).length := by rw [srow_len, List.length_cons]; omega
 have hix : ∀ (τ : List AO), ACalls Tryz.prog 37 [.str (ba nm), .int .i64 ((lcells v.l).length : Int), .bool false] τ (Ret (.tup [.int .i64 (jixN nm v.l.length false), .bool (jixO nm v.l.length false)]) τ) := by
  intro τ; rw [hll]; exact pidx_c nm v.l.length false τ hnm (by omega)
 rw [vcells_eq v]
 refine zw3 ?_
 refine AWp_seq ?_
 refine zu2 ?_
 refine zt rfl (op_eqlF rfl rfl rfl (by rw [srow_len, List.length_cons]; omega)) ?_
 refine zon ?_
 refine AWp_condF rfl ?_
 refine AWp_skip ?_
 refine AWp_seq ?_
 refine zw2 ?_
 refine AWp_block ?_
 refine zw2 ?_
 refine AWp_cond rfl (fun h1 => ?_) (fun h1 => ?_)
 ·(try rw [h1]); replace h1 := zcl h1
  refine AWp_seq ?_
  refine AWp_drawL #[0, 1, 3, 0, 8, 24, 63, 127, 255, 255, 511, 2047] Tryz.mixed (by decide +kernel) (by decide +kernel) ?_
  refine zd1 ?_
  refine yA rfl rfl (fun _ => op_indexAddr rfl Tryz.underlying31 Tryz.sizeOf9 rfl rfl (by omega) (rfl)) ?_
  refine zp1 ?_
  refine zd1 ?_
  refine zp1 ?_
  refine zd1 ?_
  refine yP rfl rfl (zc rfl (hix _)) (trivial) ?_
  refine zd5 ?_
  refine RP.nil rfl ?_
  refine AWp_seq ?_
  refine zw2 ?_
  refine AWp_cond rfl (fun h2 => ?_) (fun h2 => ?_)
  ·(try rw [h2]); replace h2 := zcl h2
   refine zw4 ?_
   refine AWp_boxLeO 1 (bs' := [.int .i64 vz.kind, .bool vz.b, .bool vz.n.neg, .str vz.n.digits, .int .i64 vz.n.exp, .str vz.s, .sl false 8 (lcells vz.l), .sl false 9 (mcells vz.m)]) rfl ⟨AVle.refl _, AVle.refl _, AVle.refl _, AVle.refl _, AVle.refl _, AVle.refl _, nilL, nilM, trivial⟩ ?_
   refine zrt ?_
   rw [pwi_no4 hk4 (by simpa using h2), vcells_eq]
   exact RQ_ret (rkvs_cons (rkv_ck rfl rfl rfl) (rkvs_cons (rkv_t rfl) rfl)) hcl (by simp [rks, AV.lt, AV.ltL, gerr]) ⟨rfl, rfl⟩
  ·(try rw [h2]); replace h2 := zcl h2
   obtain ⟨k, hk, hkl⟩ := jix_nat (nm := nm) (n := v.l.length) (by simpa using h2)
   obtain ⟨a, ha⟩ : ∃ a, v.l[k]? = some a := ⟨_, List.getElem?_eq_getElem hkl⟩
   rw [hk]
   refine AWp_skip ?_
   refine AWp_seq ?_
   refine AWp_drawL #[0, 1, 0, 7, 15, 0, 32, 0, 255, 511, 1023, 1023, 0, 6143, 16383] Tryz.mixed (by decide +kernel) (by decide +kernel) ?_
   refine zd1 ?_
   refine zp1 ?_
   refine zd2 ?_
   rw [vcells_eq a]
   refine zp1 ?_
   refine zd1 ?_
   refine yA rfl rfl (fun _ => (by first | exact op_sliceSl _ _ rfl Tryz.underlying31 Tryz.sizeOf9 rfl (by first | exact ⟨_, rfl⟩ | rfl) (by first | exact ⟨_, rfl⟩ | rfl) (by omega) (by omega) (by omega) | exact op_sliceArr _ _ rfl Tryz.underlying31 Tryz.sizeOf9 rfl GET (by first | exact ⟨_, rfl⟩ | rfl) (by first | exact ⟨_, rfl⟩ | rfl) (by omega) (by omega) (by omega))) ?_
   refine zd1 ?_
   refine yP rfl rfl (zc rfl (ih a _ _ _ (vcells_eq a) (srow_tail nm r) (lb_get hb5 ha) (st_get hmay ha))) (trivial) ?_
   rw [vcells_eq (pwi g r a).1]
   refine zd3 ?_
   refine yE rfl rfl (zoa) (⟨.inr (by rw [← vcells_eq (pwi g r a).1]; exact zc rfl (ih a _ _ _ (vcells_eq a) (srow_tail nm r) (lb_get hb5 ha) (st_get hmay ha))), ⟨.inr zoa, ⟨.inr zoa, trivial⟩⟩⟩) (trivial) ?_
   refine yEN rfl rfl rfl (zoa) (⟨.inl rfl, ⟨.inl rfl, ⟨.inl rfl, trivial⟩⟩⟩) (⟨rfl, trivial⟩) ?_
   refine zd1 ?_
   refine RP.nil rfl ?_
   refine AWp_seq ?_
   refine zu1 ?_
   refine zt rfl (op_neGerr rfl Tryz.underlying35 rfl) ?_
   refine zon ?_
   refine AWp_cond rfl (fun h3 => ?_) (fun h3 => ?_)
   ·(try rw [h3]); replace h3 := zcl h3
    have hb0 : (pwi g r a).2 = false := by simpa using h3
    rw [hb0]
    refine zw4 ?_
    refine AWp_boxLeO 1 (bs' := [.int .i64 vz.kind, .bool vz.b, .bool vz.n.neg, .str vz.n.digits, .int .i64 vz.n.exp, .str vz.s, .sl false 8 (lcells vz.l), .sl false 9 (mcells vz.m)]) rfl ⟨AVle.refl _, AVle.refl _, AVle.refl _, AVle.refl _, AVle.refl _, AVle.refl _, nilL, nilM, trivial⟩ ?_
    refine zrt ?_
    rw [pwi_bad4 hk4 hk ha hb0, vcells_eq]
    exact RQ_ret (rkvs_cons (rkv_ck rfl rfl rfl) (rkvs_cons (rkv_t rfl) rfl)) hcl (by simp [rks, AV.lt, AV.ltL, gerr]) ⟨rfl, rfl⟩
   ·(try rw [h3]); replace h3 := zcl h3
    have hb1 : (pwi g r a).2 = true := by simpa using h3
    refine AWp_skip ?_
    refine zu2 ?_
    refine zt rfl (zc rfl (cloneL_o false v.l 3 σ _ rfl hb3)) ?_
    refine zv2 ?_
    refine zu4 ?_
    refine zt rfl (op_indexAddrAO (j := 3) rfl Tryz.underlying25 Tryz.sizeOf28 rfl rfl (by omega) (by omega) rfl) ?_
    refine ztN rfl rfl (op_storeElK (j := 3) (n := 8) rfl Tryz.sizeOf28 rfl rfl rfl rfl rfl (by decide) (by rw [lflat_len, Int.toNat_natCast]; show k * 8 + 8 ≤ _; omega)) ?_
    refine zon ?_
    refine AWp_seq ?_
    refine AWp_freezeInO 0 6 3 0 8 v.l.length rfl rfl rfl (lcells (v.l.set k (pwi g r a).1)) (by rw [Int.toNat_natCast, ← vcells_eq (pwi g r a).1]; exact (lset_cells hkl).symm) (lrow_len _) (by rw [lcells_length, List.length_set]) (by decide) ?_
    refine AWp_regL ?_
    refine zv3 ?_
    refine zrt ?_
    rw [pwi_4 hk4 (by simpa using h2) hk ha hb1, vcells_eq]
    exact RQ_ret (rkvs_cons (rkv_ck rfl rfl rfl) (rkvs_cons (rkv_t rfl) rfl)) hcl (by simp [rks, AV.lt, AV.ltL, gerr]) ⟨rfl, rfl⟩
 ·(try rw [h1]); replace h1 := zcl h1
  exact absurd hk4 h1
end Lg
set_option maxRecDepth 20000
set_option maxHeartbeats 4000000
namespace Lg
open Go Go.Proofs Go.RowKit
variable [GLay] 
theorem with_5 (kf : Nat) (fn : Go.Func) (caps : List AV) (hfn : Tryz.prog.funcs[kf]? = some fn) (hname : (fn.name == "runtime.NumGoroutine") = false) (hbd : fn.body.isNone = false) (g : JV → JV × Bool) (hf : ∀ (v : JV) (cs : List AV) (τ : List AO), vcells v = cs → jb v → jst v → ACalls Tryz.prog kf ([.agg cs] ++ caps) τ (Ret (.tup [.agg (vcells (g v).1), gerr (g v).2]) τ)) (r : List BL) (ih : ∀ (v : JV) (cs : List AV) (es : List (List AV)) (σ : List AO), vcells v = cs → es = srow r → jb v → jst v → ACalls Tryz.prog 35 [.agg cs, .sl false 1 es, .func (.func kf) [] caps] σ (Ret (.tup [.agg (vcells (pwi g r v).1), gerr (pwi g r v).2]) σ)) (f : Bool) (nm : BL) (v : JV) (cs : List AV) (σ : List AO) (hc : vcells v = cs) (hjb : jb v) (hmay : jst v) (hnm : nm.length ≤ 1000000) (hk4 : ¬ v.kind = 4) : ACalls Tryz.prog 35 [.agg cs, .sl f 1 (srow (nm :: r)), .func (.func kf) [] caps] σ (Ret (.tup [.agg (vcells (pwi g (nm :: r) v).1), gerr (pwi g (nm :: r) v).2]) σ) := by
 refine ACalls_bodyC Tryz.func35 rfl Tryz.ntmps35 (by rw [Tryz.results35]; exact (.ck Tryz.isAgg28 Tryz.sizeOf28 (.t .nil))) (Nat.le_of_ble_eq_true rfl) (fun hcl hal => ?_)
 subst hc
 obtain ⟨hb1, hb2, hb3, hb4, hb5, hb6⟩ := (jb_eq v).1 hjb
 have hll := lcells_length v.l
 have hml := mcells_length v.m
 have hsl : 1 ≤ (srow (nm :: r)).length := by rw [srow_len, List.length_cons]; omega
 have hrl := rinsK_le v.m (ba nm)
 rw [vcells_eq v]
 refine zw3 ?_
 refine AWp_seq ?_
 refine zu2 ?_
 refine zt rfl (op_eqlF rfl rfl rfl (by rw [srow_len, List.length_cons]; omega)) ?_
 refine zon ?_
 refine AWp_condF rfl ?_
 refine AWp_skip ?_
 refine AWp_seq ?_
 refine zw2 ?_
 refine AWp_block ?_
 refine zw2 ?_
 refine AWp_cond rfl (fun h1 => ?_) (fun h1 => ?_)
 ·(try rw [h1]); replace h1 := zcl h1
  exact absurd h1 hk4
 ·(try rw [h1]); replace h1 := zcl h1
  refine zw2 ?_
  refine AWp_cond rfl (fun h2 => ?_) (fun h2 => ?_)
  ·(try rw [h2]); replace h2 := zcl h2
   refine AWp_seq ?_
   refine AWp_drawL #[0, 0, 2, 6, 15, 31, 63, 63, 127, 511] Tryz.mixed (by decide +kernel) (by decide +kernel) ?_
   refine zp1 ?_
   refine zd1 ?_
   refine yA rfl rfl (fun _ => op_indexAddr rfl Tryz.underlying31 Tryz.sizeOf9 rfl rfl (by omega) (rfl)) ?_
   refine zp1 ?_
   refine yP rfl rfl (zc rfl (efind_c v (ba nm) _ _ (vcells_eq v) hb4 (st_ms hmay))) (trivial) ?_
   refine zd5 ?_
   refine RP.nil rfl ?_
   refine AWp_seq ?_
   refine zw2 ?_
   refine AWp_cond rfl (fun h3 => ?_) (fun h3 => ?_)
   ·(try rw [h3]); replace h3 := zcl h3
    refine zw4 ?_
    refine AWp_boxLeO 1 (bs' := [.int .i64 vz.kind, .bool vz.b, .bool vz.n.neg, .str vz.n.digits, .int .i64 vz.n.exp, .str vz.s, .sl false 8 (lcells vz.l), .sl false 9 (mcells vz.m)]) rfl ⟨AVle.refl _, AVle.refl _, AVle.refl _, AVle.refl _, AVle.refl _, AVle.refl _, nilL, nilM, trivial⟩ ?_
    refine zrt ?_
    rw [pwi_no5 hk4 (by simpa using h3), vcells_eq]
    exact RQ_ret (rkvs_cons (rkv_ck rfl rfl rfl) (rkvs_cons (rkv_t rfl) rfl)) hcl (by simp [rks, AV.lt, AV.ltL, gerr]) ⟨rfl, rfl⟩
   ·(try rw [h3]); replace h3 := zcl h3
    obtain ⟨q, hq, hqk⟩ := fnd_get (m := v.m) (key := ba nm) (by simpa using h3)
    have hlt := (List.getElem?_eq_some_iff.1 hq).1
    refine AWp_skip ?_
    refine AWp_seq ?_
    refine AWp_drawL #[0, 1, 0, 7, 15, 31, 0, 64, 0, 511, 1023, 2047, 2047, 0, 12287, 32767] Tryz.mixed (by decide +kernel) (by decide +kernel) ?_
    refine zd1 ?_
    refine zp1 ?_
    refine zd1 ?_
    refine yA rfl rfl (fun _ => op_indexAddr rfl Tryz.underlying26 Tryz.sizeOf64 rfl rfl (by omega) (mcells_get hq)) ?_
    refine zd1 ?_
    rw [vcells_eq q.2]
    refine zp1 ?_
    refine zd1 ?_
    refine yA rfl rfl (fun _ => (by first | exact op_sliceSl _ _ rfl Tryz.underlying31 Tryz.sizeOf9 rfl (by first | exact ⟨_, rfl⟩ | rfl) (by first | exact ⟨_, rfl⟩ | rfl) (by omega) (by omega) (by omega) | exact op_sliceArr _ _ rfl Tryz.underlying31 Tryz.sizeOf9 rfl GET (by first | exact ⟨_, rfl⟩ | rfl) (by first | exact ⟨_, rfl⟩ | rfl) (by omega) (by omega) (by omega))) ?_
    refine zd1 ?_
    refine yP rfl rfl (zc rfl (ih q.2 _ _ _ (vcells_eq q.2) (srow_tail nm r) (mb_get hb6 hq).2 (st_mget hmay hq))) (trivial) ?_
    rw [vcells_eq (pwi g r q.2).1]
    refine zd3 ?_
    refine yE rfl rfl (zoa) (⟨.inr (by rw [← vcells_eq (pwi g r q.2).1]; exact zc rfl (ih q.2 _ _ _ (vcells_eq q.2) (srow_tail nm r) (mb_get hb6 hq).2 (st_mget hmay hq))), ⟨.inr zoa, ⟨.inr zoa, trivial⟩⟩⟩) (trivial) ?_
    refine yEN rfl rfl rfl (zoa) (⟨.inl rfl, ⟨.inl rfl, ⟨.inl rfl, trivial⟩⟩⟩) (⟨rfl, trivial⟩) ?_
    refine zd1 ?_
    refine RP.nil rfl ?_
    refine AWp_seq ?_
    refine zu1 ?_
    refine zt rfl (op_neGerr rfl Tryz.underlying35 rfl) ?_
    refine zon ?_
    refine AWp_cond rfl (fun h4 => ?_) (fun h4 => ?_)
    ·(try rw [h4]); replace h4 := zcl h4
     have hb0 : (pwi g r q.2).2 = false := by simpa using h4
     rw [hb0]
     refine zw4 ?_
     refine AWp_boxLeO 1 (bs' := [.int .i64 vz.kind, .bool vz.b, .bool vz.n.neg, .str vz.n.digits, .int .i64 vz.n.exp, .str vz.s, .sl false 8 (lcells vz.l), .sl false 9 (mcells vz.m)]) rfl ⟨AVle.refl _, AVle.refl _, AVle.refl _, AVle.refl _, AVle.refl _, AVle.refl _, nilL, nilM, trivial⟩ ?_
     refine zrt ?_
     rw [pwi_bad5 hk4 hq hb0, vcells_eq]
     exact RQ_ret (rkvs_cons (rkv_ck rfl rfl rfl) (rkvs_cons (rkv_t rfl) rfl)) hcl (by simp [rks, AV.lt, AV.ltL, gerr]) ⟨rfl, rfl⟩
    ·(try rw [h4]); replace h4 := zcl h4
     have hb1 : (pwi g r q.2).2 = true := by simpa using h4
     refine AWp_skip ?_
     refine zu2 ?_
     refine zt rfl (zc rfl (cloneM_o false v.m 3 σ _ rfl hb4)) ?_
     refine zv2 ?_
     refine zu4 ?_
     refine zt rfl (op_indexAddrAO (j := 3) rfl Tryz.underlying26 Tryz.sizeOf64 rfl rfl (by omega) (by omega) rfl) ?_
     refine zt rfl (op_fieldAddrO (fo := 1) rfl Tryz.underlying64 rfl rfl Tryz.sizeOf28 (by decide) rfl ⟨_, _, get_own 3⟩) ?_
     refine ztN rfl rfl (op_storeElK (j := 3) (n := 8) rfl Tryz.sizeOf28 rfl rfl rfl rfl rfl (by decide) (by rw [mflat_len, Int.toNat_natCast]; show rinsK v.m (ba nm) * 9 + 1 + 8 ≤ _; omega)) ?_
     refine zon ?_
     refine AWp_seq ?_
     refine AWp_freezeInO 0 7 3 0 9 v.m.length rfl rfl rfl (mcells (v.m.set (rinsK v.m (ba nm)) (q.1, (pwi g r q.2).1))) (by rw [Int.toNat_natCast, ← vcells_eq (pwi g r q.2).1]; exact (mset_cells hq).symm) (mrows_len _) (by rw [mcells_length, List.length_set]) (by decide) ?_
     refine AWp_regL ?_
     refine zv3 ?_
     refine zrt ?_
     rw [pwi_5 hk4 h2 (by simpa using h3) hq hb1, ← hqk, vcells_eq]
     exact RQ_ret (rkvs_cons (rkv_ck rfl rfl rfl) (rkvs_cons (rkv_t rfl) rfl)) hcl (by simp [rks, AV.lt, AV.ltL, gerr]) ⟨rfl, rfl⟩
  ·(try rw [h2]); replace h2 := zcl h2
   refine AWp_skip ?_
   refine zw4 ?_
   refine AWp_boxLeO 1 (bs' := [.int .i64 vz.kind, .bool vz.b, .bool vz.n.neg, .str vz.n.digits, .int .i64 vz.n.exp, .str vz.s, .sl false 8 (lcells vz.l), .sl false 9 (mcells vz.m)]) rfl ⟨AVle.refl _, AVle.refl _, AVle.refl _, AVle.refl _, AVle.refl _, AVle.refl _, nilL, nilM, trivial⟩ ?_
   refine zrt ?_
   rw [pwi_n hk4 h2, vcells_eq]
   exact RQ_ret (rkvs_cons (rkv_ck rfl rfl rfl) (rkvs_cons (rkv_t rfl) rfl)) hcl (by simp [rks, AV.lt, AV.ltL, gerr]) ⟨rfl, rfl⟩
end Lg
set_option maxRecDepth 20000
set_option maxHeartbeats 4000000
namespace Lg
open Go Go.Proofs Go.RowKit
variable [GLay] 
theorem add1_c (nm : BL) (x : JV) (xs : List AV) (hxs : vcells x = xs) (v : JV) (cs : List AV) (σ : List AO) (hc : vcells v = cs) (hjb : jb v) (hs : msorted v.m) (hnm : nm.length ≤ 1000000) : ACalls Tryz.prog 36 [.agg cs, .pp [.str (ba nm)], .pp xs] σ (Ret (.tup [.agg (vcells (padd nm x v).1), gerr (padd nm x v).2]) σ) := by
 obtain ⟨hb1, hb2, hb3, hb4, hb5, hb6⟩ := (jb_eq v).1 hjb
 have hll := lcells_length v.l
 have hml := mcells_length v.m
 have hrl := rinsK_le v.m (ba nm)
 have hix : ∀ (τ : List AO), ACalls Tryz.prog 37 [.str (ba nm), .int .i64 ((lcells v.l).length : Int), .bool true] τ (Ret (.tup [.int .i64 (jixN nm v.l.length true), .bool (jixO nm v.l.length true)]) τ) := by
  intro τ; rw [hll]; exact pidx_c nm v.l.length true τ hnm (by omega)
 refine ACalls_bodyC Tryz.func36 rfl Tryz.ntmps36 (by rw [Tryz.results36]; exact (.ck Tryz.isAgg28 Tryz.sizeOf28 (.t .nil))) (Nat.le_of_ble_eq_true rfl) (fun hcl hal => ?_)
 subst hc
 subst hxs
 rw [vcells_eq v, vcells_eq x]
 refine zw3 ?_
 refine AWp_seq ?_
 refine zw2 ?_
 refine AWp_block ?_
 refine zw2 ?_
 refine AWp_cond rfl (fun h1 => ?_) (fun h1 => ?_)
 ·(try rw [h1]); replace h1 := zcl h1
  refine zu4 ?_
  refine zt rfl (zc rfl (hix _)) ?_
  refine zv5 ?_
  refine AWp_seq ?_
  refine zw2 ?_
  refine AWp_cond rfl (fun h2 => ?_) (fun h2 => ?_)
  ·(try rw [h2]); replace h2 := zcl h2
   refine zw4 ?_
   refine AWp_boxLeO 1 (bs' := [.int .i64 vz.kind, .bool vz.b, .bool vz.n.neg, .str vz.n.digits, .int .i64 vz.n.exp, .str vz.s, .sl false 8 (lcells vz.l), .sl false 9 (mcells vz.m)]) rfl ⟨AVle.refl _, AVle.refl _, AVle.refl _, AVle.refl _, AVle.refl _, AVle.refl _, nilL, nilM, trivial⟩ ?_
   refine zrt ?_
   rw [padd_no h1 (by simpa using h2), vcells_eq]
   exact RQ_ret (rkvs_cons (rkv_ck rfl rfl rfl) (rkvs_cons (rkv_t rfl) rfl)) hcl (by simp [rks, AV.lt, AV.ltL, gerr]) ⟨rfl, rfl⟩
  ·(try rw [h2]); replace h2 := zcl h2
   obtain ⟨k, hk, hkl⟩ := jix_nat2 (nm := nm) (n := v.l.length) (e := true) (by simpa using h2)
   rw [hk]
   refine AWp_skip ?_
   refine AWp_seq ?_
   refine AWp_drawL #[0, 1, 3, 0, 0, 16, 63, 127, 255] Tryz.mixed (by decide +kernel) (by decide +kernel) ?_
   refine zd1 ?_
   refine zp1 ?_
   refine yE rfl rfl (zc rfl (cloneL_o false v.l 2 σ _ rfl hb3)) (⟨.inl rfl, trivial⟩) (trivial) ?_
   refine zd1 ?_
   refine yP rfl rfl (zoa) (⟨.inr zoa, trivial⟩) ?_
   refine yA rfl rfl (fun _ => op_buildSlice [[_, _, _, _, _, _, _, _]] rfl Tryz.underlying25 Tryz.sizeOf28 Tryz.zeroValue28 rfl (by decide) (by decide) rfl rfl rfl rfl rfl) ?_
   refine yE rfl rfl (zc rfl (insL_o v.l x _ (vcells_eq x) k 2 0 σ _ rfl hkl hb3)) (⟨.inl rfl, ⟨.inl rfl, trivial⟩⟩) (⟨rfl, trivial⟩) ?_
   refine zd1 ?_
   refine yEN rfl rfl rfl (zoa) (⟨.inl rfl, ⟨.inl rfl, trivial⟩⟩) (⟨rfl, ⟨rfl, trivial⟩⟩) ?_
   refine RP.nil rfl ?_
   refine zw3 ?_
   refine zrt ?_
   rw [padd_4 h1 (by simpa using h2) hk, vcells_eq]
   exact RQ_ret (rkvs_cons (rkv_ck rfl rfl rfl) (rkvs_cons (rkv_t rfl) rfl)) hcl (by simp [rks, AV.lt, AV.ltL, gerr]) ⟨rfl, rfl⟩
 ·(try rw [h1]); replace h1 := zcl h1
  refine zw2 ?_
  refine AWp_cond rfl (fun h3 => ?_) (fun h3 => ?_)
  ·(try rw [h3]); replace h3 := zcl h3
   refine zu2 ?_
   refine zt rfl (zc rfl (efind_c v (ba nm) _ _ (vcells_eq v) hb4 hs)) ?_
   refine zv5 ?_
   refine zu2 ?_
   refine zt rfl (zc rfl (cloneM_o false v.m 2 σ _ rfl hb4)) ?_
   refine zv2 ?_
   refine AWp_seq ?_
   refine zw1 ?_
   refine AWp_cond rfl (fun h4 => ?_) (fun h4 => ?_)
   ·(try rw [h4]); replace h4 := zcl h4
    obtain ⟨q, hq, hqk⟩ := fnd_get h4
    have hlt := (List.getElem?_eq_some_iff.1 hq).1
    refine AWp_regL ?_
    refine zg4 ?_
    refine zt rfl (op_indexAddrAO (j := 2) rfl Tryz.underlying26 Tryz.sizeOf64 rfl rfl (by omega) (by omega) rfl) ?_
    refine zt rfl (op_fieldAddrO (fo := 1) rfl Tryz.underlying64 rfl rfl Tryz.sizeOf28 (by decide) rfl ⟨_, _, get_own 2⟩) ?_
    refine ztN rfl rfl (op_storeElK (j := 2) (n := 8) rfl Tryz.sizeOf28 rfl rfl rfl rfl rfl (by decide) (by rw [mflat_len, Int.toNat_natCast]; show rinsK v.m (ba nm) * 9 + 1 + 8 ≤ _; omega)) ?_
    refine zon ?_
    refine AWp_seq ?_
    first | (refine AWp_freezeInO 0 7 2 0 9 v.m.length rfl rfl rfl (mcells (v.m.set (rinsK v.m (ba nm)) (q.1, x))) (by rw [Int.toNat_natCast, ← vcells_eq x]; exact (mset_cells hq).symm) (mrows_len _) (by rw [mcells_length, List.length_set]) (by decide) ?_) | skip
    refine AWp_regL ?_
    refine zv3 ?_
    refine zrt ?_
    have hp : padM v.m (ba nm) x = v.m.set (rinsK v.m (ba nm)) (q.1, x) := by unfold padM; rw [if_pos h4, hqk]
    rw [padd_5 h3, hp, vcells_eq]
    exact RQ_ret (rkvs_cons (rkv_ck rfl rfl rfl) (rkvs_cons (rkv_t rfl) rfl)) hcl (by simp [rks, AV.lt, AV.ltL, gerr]) ⟨rfl, rfl⟩
   ·(try rw [h4]); replace h4 := zcl h4
    refine AWp_regL ?_
    refine zg6 ?_
    refine zt rfl (op_buildSlice [[_, _, _, _, _, _, _, _, _]] rfl Tryz.underlying26 Tryz.sizeOf64 Tryz.zeroValue64 rfl (by decide) (by decide) rfl rfl rfl rfl rfl) ?_
    refine zt rfl (zc rfl (insM_o v.m (ba nm, x) _ (by rw [mrow, vcells_eq]) (rinsK v.m (ba nm)) 2 0 σ _ rfl hrl hb4)) ?_
    refine zv2 ?_
    refine AWp_seq ?_
    first | (refine AWp_freezeInO 0 7 2 0 9 v.m.length rfl rfl rfl (mcells (v.m.set (rinsK v.m (ba nm)) (q.1, x))) (by rw [Int.toNat_natCast, ← vcells_eq x]; exact (mset_cells hq).symm) (mrows_len _) (by rw [mcells_length, List.length_set]) (by decide) ?_) | skip
    refine AWp_regL ?_
    refine zv3 ?_
    refine zrt ?_
    have hp : padM v.m (ba nm) x = v.m.take (rinsK v.m (ba nm)) ++ (ba nm, x) :: v.m.drop (rinsK v.m (ba nm)) := by unfold padM; rw [if_neg (by simpa using h4)]
    rw [padd_5 h3, hp, vcells_eq]
    exact RQ_ret (rkvs_cons (rkv_ck rfl rfl rfl) (rkvs_cons (rkv_t rfl) rfl)) hcl (by simp [rks, AV.lt, AV.ltL, gerr]) ⟨rfl, rfl⟩
  ·(try rw [h3]); replace h3 := zcl h3
   refine AWp_skip ?_
   refine zw4 ?_
   refine AWp_boxLeO 1 (bs' := [.int .i64 vz.kind, .bool vz.b, .bool vz.n.neg, .str vz.n.digits, .int .i64 vz.n.exp, .str vz.s, .sl false 8 (lcells vz.l), .sl false 9 (mcells vz.m)]) rfl ⟨AVle.refl _, AVle.refl _, AVle.refl _, AVle.refl _, AVle.refl _, AVle.refl _, nilL, nilM, trivial⟩ ?_
   refine zrt ?_
   rw [padd_n h1 h3, vcells_eq]
   exact RQ_ret (rkvs_cons (rkv_ck rfl rfl rfl) (rkvs_cons (rkv_t rfl) rfl)) hcl (by simp [rks, AV.lt, AV.ltL, gerr]) ⟨rfl, rfl⟩
end Lg
set_option maxRecDepth 20000
set_option maxHeartbeats 4000000
namespace Lg
open Go Go.Proofs Go.RowKit
variable [GLay] 
theorem rem1_c (nm : BL) (v : JV) (cs : List AV) (σ : List AO) (hc : vcells v = cs) (hjb : jb v) (hs : msorted v.m) (hnm : nm.length ≤ 1000000) : ACalls Tryz.prog 43 [.agg cs, .pp [.str (ba nm)]] σ (Ret (.tup [.agg (vcells (prem nm v).1), gerr (prem nm v).2]) σ) := by
 obtain ⟨hb1, hb2, hb3, hb4, hb5, hb6⟩ := (jb_eq v).1 hjb
 have hll := lcells_length v.l
 have hml := mcells_length v.m
 have hrl := rinsK_le v.m (ba nm)
 have hix : ∀ (τ : List AO), ACalls Tryz.prog 37 [.str (ba nm), .int .i64 ((lcells v.l).length : Int), .bool false] τ (Ret (.tup [.int .i64 (jixN nm v.l.length false), .bool (jixO nm v.l.length false)]) τ) := by
  intro τ; rw [hll]; exact pidx_c nm v.l.length false τ hnm (by omega)
 refine ACalls_bodyC Tryz.func43 rfl Tryz.ntmps43 (by rw [Tryz.results43]; exact (.ck Tryz.isAgg28 Tryz.sizeOf28 (.t .nil))) (Nat.le_of_ble_eq_true rfl) (fun hcl hal => ?_)
 subst hc
 rw [vcells_eq v]
 refine zw3 ?_
 refine AWp_seq ?_
 refine zw2 ?_
 refine AWp_block ?_
 refine zw2 ?_
 refine AWp_cond rfl (fun h1 => ?_) (fun h1 => ?_)
 ·(try rw [h1]); replace h1 := zcl h1
  refine zu4 ?_
  refine zt rfl (zc rfl (hix _)) ?_
  refine zv5 ?_
  refine zw1 ?_
  refine AWp_cond rfl (fun h2 => ?_) (fun h2 => ?_)
  ·(try rw [h2]); replace h2 := zcl h2
   obtain ⟨k, hk, hkl⟩ := jix_nat (nm := nm) (n := v.l.length) (by simpa using h2)
   rw [hk]
   refine zu2 ?_
   refine zt rfl (zc rfl (cloneL_o false v.l 2 σ _ rfl hb3)) ?_
   refine zg3 ?_
   refine zt rfl (zc rfl (delL_o v.l k 2 0 σ _ rfl hkl hb3)) ?_
   refine zv2 ?_
   refine zw3 ?_
   (try refine AWp_boxLeO 1 (bs' := [.int .i64 vz.kind, .bool vz.b, .bool vz.n.neg, .str vz.n.digits, .int .i64 vz.n.exp, .str vz.s, .sl false 8 (lcells vz.l), .sl false 9 (mcells vz.m)]) rfl ⟨AVle.refl _, AVle.refl _, AVle.refl _, AVle.refl _, AVle.refl _, AVle.refl _, nilL, nilM, trivial⟩ ?_)
   refine zrt ?_
   first | rw [prem_4 h1 (by simpa using h2) hk, vcells_eq] | rw [prem_no h1 (by simpa using h2), vcells_eq] | rw [prem_5 h3 (by simpa using h4), vcells_eq] | rw [prem_no5 h3 (by simpa using h4), vcells_eq] | rw [prem_n h1 h3, vcells_eq]
   exact RQ_ret (rkvs_cons (rkv_ck rfl rfl rfl) (rkvs_cons (rkv_t rfl) rfl)) hcl (by simp [rks, AV.lt, AV.ltL, gerr]) ⟨rfl, rfl⟩
  ·(try rw [h2]); replace h2 := zcl h2
   refine AWp_skip ?_
   refine zw4 ?_
   (try refine AWp_boxLeO 1 (bs' := [.int .i64 vz.kind, .bool vz.b, .bool vz.n.neg, .str vz.n.digits, .int .i64 vz.n.exp, .str vz.s, .sl false 8 (lcells vz.l), .sl false 9 (mcells vz.m)]) rfl ⟨AVle.refl _, AVle.refl _, AVle.refl _, AVle.refl _, AVle.refl _, AVle.refl _, nilL, nilM, trivial⟩ ?_)
   refine zrt ?_
   first | rw [prem_4 h1 (by simpa using h2) hk, vcells_eq] | rw [prem_no h1 (by simpa using h2), vcells_eq] | rw [prem_5 h3 (by simpa using h4), vcells_eq] | rw [prem_no5 h3 (by simpa using h4), vcells_eq] | rw [prem_n h1 h3, vcells_eq]
   exact RQ_ret (rkvs_cons (rkv_ck rfl rfl rfl) (rkvs_cons (rkv_t rfl) rfl)) hcl (by simp [rks, AV.lt, AV.ltL, gerr]) ⟨rfl, rfl⟩
 ·(try rw [h1]); replace h1 := zcl h1
  refine zw2 ?_
  refine AWp_cond rfl (fun h3 => ?_) (fun h3 => ?_)
  ·(try rw [h3]); replace h3 := zcl h3
   refine zu2 ?_
   refine zt rfl (zc rfl (efind_c v (ba nm) _ _ (vcells_eq v) hb4 hs)) ?_
   refine zv5 ?_
   refine zw1 ?_
   refine AWp_cond rfl (fun h4 => ?_) (fun h4 => ?_)
   ·(try rw [h4]); replace h4 := zcl h4
    obtain ⟨q, hq, hqk⟩ := fnd_get h4
    have hlt := (List.getElem?_eq_some_iff.1 hq).1
    refine zu2 ?_
    refine zt rfl (zc rfl (cloneM_o false v.m 2 σ _ rfl hb4)) ?_
    refine zg3 ?_
    refine zt rfl (zc rfl (delM_o v.m (rinsK v.m (ba nm)) 2 0 σ _ rfl hlt hb4)) ?_
    refine zv2 ?_
    refine zw3 ?_
    (try refine AWp_boxLeO 1 (bs' := [.int .i64 vz.kind, .bool vz.b, .bool vz.n.neg, .str vz.n.digits, .int .i64 vz.n.exp, .str vz.s, .sl false 8 (lcells vz.l), .sl false 9 (mcells vz.m)]) rfl ⟨AVle.refl _, AVle.refl _, AVle.refl _, AVle.refl _, AVle.refl _, AVle.refl _, nilL, nilM, trivial⟩ ?_)
    refine zrt ?_
    first | rw [prem_4 h1 (by simpa using h2) hk, vcells_eq] | rw [prem_no h1 (by simpa using h2), vcells_eq] | rw [prem_5 h3 (by simpa using h4), vcells_eq] | rw [prem_no5 h3 (by simpa using h4), vcells_eq] | rw [prem_n h1 h3, vcells_eq]
    exact RQ_ret (rkvs_cons (rkv_ck rfl rfl rfl) (rkvs_cons (rkv_t rfl) rfl)) hcl (by simp [rks, AV.lt, AV.ltL, gerr]) ⟨rfl, rfl⟩
   ·(try rw [h4]); replace h4 := zcl h4
    refine AWp_skip ?_
    refine zw4 ?_
    (try refine AWp_boxLeO 1 (bs' := [.int .i64 vz.kind, .bool vz.b, .bool vz.n.neg, .str vz.n.digits, .int .i64 vz.n.exp, .str vz.s, .sl false 8 (lcells vz.l), .sl false 9 (mcells vz.m)]) rfl ⟨AVle.refl _, AVle.refl _, AVle.refl _, AVle.refl _, AVle.refl _, AVle.refl _, nilL, nilM, trivial⟩ ?_)
    refine zrt ?_
    first | rw [prem_4 h1 (by simpa using h2) hk, vcells_eq] | rw [prem_no h1 (by simpa using h2), vcells_eq] | rw [prem_5 h3 (by simpa using h4), vcells_eq] | rw [prem_no5 h3 (by simpa using h4), vcells_eq] | rw [prem_n h1 h3, vcells_eq]
    exact RQ_ret (rkvs_cons (rkv_ck rfl rfl rfl) (rkvs_cons (rkv_t rfl) rfl)) hcl (by simp [rks, AV.lt, AV.ltL, gerr]) ⟨rfl, rfl⟩
  ·(try rw [h3]); replace h3 := zcl h3
   refine AWp_skip ?_
   refine zw4 ?_
   (try refine AWp_boxLeO 1 (bs' := [.int .i64 vz.kind, .bool vz.b, .bool vz.n.neg, .str vz.n.digits, .int .i64 vz.n.exp, .str vz.s, .sl false 8 (lcells vz.l), .sl false 9 (mcells vz.m)]) rfl ⟨AVle.refl _, AVle.refl _, AVle.refl _, AVle.refl _, AVle.refl _, AVle.refl _, nilL, nilM, trivial⟩ ?_)
   refine zrt ?_
   first | rw [prem_4 h1 (by simpa using h2) hk, vcells_eq] | rw [prem_no h1 (by simpa using h2), vcells_eq] | rw [prem_5 h3 (by simpa using h4), vcells_eq] | rw [prem_no5 h3 (by simpa using h4), vcells_eq] | rw [prem_n h1 h3, vcells_eq]
   exact RQ_ret (rkvs_cons (rkv_ck rfl rfl rfl) (rkvs_cons (rkv_t rfl) rfl)) hcl (by simp [rks, AV.lt, AV.ltL, gerr]) ⟨rfl, rfl⟩

theorem rep1_c (x : JV) (xs : List AV) (hxs : vcells x = xs) (v : JV) (cs : List AV) (σ : List AO) (hc : vcells v = cs) : ACalls Tryz.prog 46 [.agg cs, .pp xs] σ (Ret (.tup [.agg (vcells x), gerr true]) σ) := by
 refine ACalls_bodyC Tryz.func46 rfl Tryz.ntmps46 (by rw [Tryz.results46]; exact (.ck Tryz.isAgg28 Tryz.sizeOf28 (.t .nil))) (Nat.le_of_ble_eq_true rfl) (fun hcl hal => ?_)
 subst hc
 subst hxs
 rw [vcells_eq v, vcells_eq x]
 refine zw3 ?_
 refine zw3 ?_
 refine zrt ?_
 exact RQ_ret (rkvs_cons (rkv_ck rfl rfl rfl) (rkvs_cons (rkv_t rfl) rfl)) hcl (by simp [rks, AV.lt, AV.ltL, gerr]) ⟨rfl, rfl⟩
end Lg
set_option maxRecDepth 20000
set_option maxHeartbeats 4000000
namespace Lg
open Go Go.Proofs Go.RowKit
variable [GLay] 
theorem with_c (kf : Nat) (fn : Go.Func) (caps : List AV) (hfn : Tryz.prog.funcs[kf]? = some fn) (hname : (fn.name == "runtime.NumGoroutine") = false) (hbd : fn.body.isNone = false) (g : JV → JV × Bool) (hf : ∀ (v : JV) (cs : List AV) (τ : List AO), vcells v = cs → jb v → jst v → ACalls Tryz.prog kf ([.agg cs] ++ caps) τ (Ret (.tup [.agg (vcells (g v).1), gerr (g v).2]) τ)) : ∀ (l : List BL) (f : Bool) (v : JV) (cs : List AV) (es : List (List AV)) (σ : List AO), (∀ nm ∈ l, nm.length ≤ 1000000) → vcells v = cs → es = srow l → jb v → jst v → ACalls Tryz.prog 35 [.agg cs, .sl f 1 es, .func (.func kf) [] caps] σ (Ret (.tup [.agg (vcells (pwi g l v).1), gerr (pwi g l v).2]) σ)
  | [], f, v, cs, es, σ, _, hc, he, hb, hm => by subst he; exact with_0 kf fn caps hfn hname hbd g hf f v cs σ hc hb hm
  | nm :: r, f, v, cs, es, σ, hl, hc, he, hb, hm => by
    subst he
    have ih := fun v cs es σ hc he hb hm => with_c kf fn caps hfn hname hbd g hf r false v cs es σ (fun n hn => hl n (List.mem_cons_of_mem _ hn)) hc he hb hm
    by_cases h4 : v.kind = 4
    · exact with_4 kf fn caps hfn hname hbd g hf r ih f nm v cs σ hc hb hm (hl nm (List.mem_cons_self ..)) h4
    · exact with_5 kf fn caps hfn hname hbd g hf r ih f nm v cs σ hc hb hm (hl nm (List.mem_cons_self ..)) h4
theorem srowE_len (l : List BL) (nm : BL) : (srow (l ++ [nm])).length = l.length + 1 := by simp [srow]
theorem srowE_get (l : List BL) (nm : BL) : (srow (l ++ [nm]))[l.length]? = some [.str (ba nm)] := by simp [srow]
theorem srowE_cut {l : List BL} {nm : BL} {k : Nat} (h : k = l.length) : ((srow (l ++ [nm])).drop 0).take k = srow l := by subst h; simp [srow]
theorem eadd_0 (x : JV) (xs : List AV) (hxs : vcells x = xs) (f : Bool) (v : JV) (cs : List AV) (σ : List AO) (hc : vcells v = cs) (hjb : jb v) (hmay : jst v) : ACalls Tryz.prog 13 [.agg cs, .sl f 1 (srow []), .agg xs] σ (Ret (.tup [.agg (vcells x), gerr true]) σ) := by
 refine ACalls_bodyC Tryz.func13 rfl Tryz.ntmps13 (by rw [Tryz.results13]; exact (.ck Tryz.isAgg28 Tryz.sizeOf28 (.t .nil))) (Nat.le_of_ble_eq_true rfl) (fun hcl hal => ?_)
 subst hc
 subst hxs
 rw [vcells_eq v, vcells_eq x]
 refine zw4 ?_
 refine AWp_seq ?_
 refine zu2 ?_
 refine zt rfl (op_eqlT rfl rfl rfl rfl) ?_
 refine zon ?_
 refine AWp_condT rfl ?_
 refine zw3 ?_
 refine zrt ?_
 exact RQ_ret (rkvs_cons (rkv_ck rfl rfl rfl) (rkvs_cons (rkv_t rfl) rfl)) hcl (by simp [rks, AV.lt, AV.ltL, gerr]) ⟨rfl, rfl⟩

theorem eadd_1 (x : JV) (xs : List AV) (hxs : vcells x = xs) (l : List BL) (nm : BL) (hl : ∀ n ∈ l, n.length ≤ 1000000) (hll1 : l.length ≤ 2000000) (hnm : nm.length ≤ 1000000) (f : Bool) (v : JV) (cs : List AV) (σ : List AO) (hc : vcells v = cs) (hjb : jb v) (hmay : jst v) : ACalls Tryz.prog 13 [.agg cs, .sl f 1 (srow (l ++ [nm])), .agg xs] σ (Ret (.tup [.agg (vcells (pwi (padd nm x) l v).1), gerr (pwi (padd nm x) l v).2]) σ) := by
 refine ACalls_bodyC Tryz.func13 rfl Tryz.ntmps13 (by rw [Tryz.results13]; exact (.ck Tryz.isAgg28 Tryz.sizeOf28 (.t .nil))) (Nat.le_of_ble_eq_true rfl) (fun hcl hal => ?_)
 subst hc
 subst hxs
 have hsl := srowE_len l nm
 rw [vcells_eq v, vcells_eq x]
 refine zw4 ?_
 refine AWp_seq ?_
 refine zu2 ?_
 refine zt rfl (op_eqlF rfl rfl rfl (by omega)) ?_
 refine zon ?_
 refine AWp_condF rfl ?_
 refine AWp_skip ?_
 refine zu4 ?_
 refine zt rfl (op_indexAddr rfl Tryz.underlying31 Tryz.sizeOf9 rfl rfl (by omega) ((by rw [hsl, show ((((l.length + 1 : Nat) : Int) - 1).toNat) = l.length by omega]; exact srowE_get l nm))) ?_
 refine zv3 ?_
 refine AWp_seq ?_
 refine AWp_freezeBoxO 8 3 rfl rfl ?_ (by decide)
 refine AWp_freezeBoxO 5 1 rfl rfl ?_ (by decide)
 refine AWp_drawL #[0, 0, 0, 4, 12, 30, 0, 127, 255, 255, 1023, 2047] Tryz.mixed (by decide +kernel) (by decide +kernel) ?_
 refine zp1 ?_
 refine zd4 ?_
 refine yA rfl rfl (fun _ => (by first | exact op_sliceSl _ _ rfl Tryz.underlying31 Tryz.sizeOf9 rfl (by first | exact ⟨_, rfl⟩ | rfl) (by first | exact ⟨_, rfl⟩ | rfl) (by omega) (by omega) (by omega) | exact op_sliceArr _ _ rfl Tryz.underlying31 Tryz.sizeOf9 rfl GET (by first | exact ⟨_, rfl⟩ | rfl) (by first | exact ⟨_, rfl⟩ | rfl) (by omega) (by omega) (by omega))) ?_
 refine zd1 ?_
 refine yP rfl rfl (zc rfl (with_c 36 _ [.pp [.str (ba nm)], .pp [.int .i64 x.kind, .bool x.b, .bool x.n.neg, .str x.n.digits, .int .i64 x.n.exp, .str x.s, .sl false 8 (lcells x.l), .sl false 9 (mcells x.m)]] Tryz.func36 rfl rfl (padd nm x) (fun v cs τ hc hb hm => add1_c nm x _ (vcells_eq x) v cs τ hc hb (st_ms hm) hnm) l _ v _ _ _ hl (vcells_eq v) (srowE_cut (by omega)) hjb hmay)) (trivial) ?_
 rw [vcells_eq (pwi (padd nm x) l v).1]
 refine zd2 ?_
 refine yEN rfl rfl rfl (zoa) (⟨.inl rfl, ⟨.inl rfl, trivial⟩⟩) (trivial) ?_
 refine zd1 ?_
 refine RP.nil rfl ?_
 refine zrt ?_
 exact RQ_ret (rkvs_cons (rkv_ck rfl rfl rfl) (rkvs_cons (rkv_t rfl) rfl)) hcl (by simp [rks, AV.lt, AV.ltL, gerr_lt]) ⟨rfl, rfl⟩
end Lg
