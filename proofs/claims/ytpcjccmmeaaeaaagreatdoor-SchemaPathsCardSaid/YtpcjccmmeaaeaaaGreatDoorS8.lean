/- A part of the proof of Whatever text is handed in: the nodes that the program compiles of its value as a schema are the document's, and what is amiss is told with the document's number and pointer.: W8 C10 W11 W10 W12 W13 W14 W15 W3. -/
import Derived.Test.YtpcjccmmeaaeaaaGreatDoorS7
import Derived.Test.YtpcjccmmeaaeaaaGreatDoorS4
import Derived.Test.YtpcjccmmeaaeaaaGreatDoorS6
import Derived.Test.YtpcjccmmeaaeaaaGreatDoorS5
import Derived.Test.YtpcjccmmeaaeaaaGreatDoorS3
set_option linter.unusedVariables false
set_option linter.unusedSimpArgs false
set_option linter.unusedSectionVars false
set_option maxRecDepth 20000
set_option maxHeartbeats 4000000
namespace Lg
open Go Go.Proofs Go.RowKit
variable [GLay] 
theorem rsame_any (n : Nat) : ∀ (x y : JV) (σ : List AO), jsize x ≤ n → jb x → jb y → ACalls Tryz.prog 32 [.agg (vcells x), .agg (vcells y)] σ (Ret (.bool (pb (x = y))) σ) := by
 induction n with
 | zero => intro x y σ h; have := jsize_pos x; omega
 | succ n ih =>
 intro x y σ hn hjx hjy
 have hvs := jsize_eq x
 have hl := lsize_nn x.l
 have hm := msize_nn x.m
 obtain ⟨hb1, hb2, hb3, hb4, hb5, hb6⟩ := (jb_eq x).1 hjx
 obtain ⟨hc1, hc2, hc3, hc4, hc5, hc6⟩ := (jb_eq y).1 hjy
 have hxl := lcells_length x.l
 have hyl := lcells_length y.l
 have hxm := mcells_length x.m
 have hym := mcells_length y.m
 refine ACalls_body Tryz.func32 rfl Tryz.ntmps32 (res1 Tryz.results32) (Nat.le_of_ble_eq_true rfl) (fun hcl hal => ?_)
 rw [vcells_eq x, vcells_eq y]
 refine zw3 ?_
 refine AWp_seq ?_
 refine zu6 ?_
 refine zsp 14 rfl (fun h1 => ?_) fun h1 => ?_
 ·rw [h1]; replace h1 := zcl h1
  refine zg30 ?_
  refine zg8 ?_
  refine zon ?_
  refine AWp_condT rfl ?_
  refine zw1 ?_
  refine zrt ?_
  refine ResQ_1 rfl hcl trivial (Ret_of (bool_f ?_))
  rw [jv_ext]; intro hj; obtain ⟨j1, j2, ⟨j3, j4, j5⟩, j6, j7, j8⟩ := hj
  simp_all
 ·rw [h1]; replace h1 := zcl h1
  refine zg7 ?_
  refine zsp 21 rfl (fun h2 => ?_) fun h2 => ?_
  ·rw [h2]; replace h2 := zcl h2
   refine zg30 ?_
   refine zg1 ?_
   refine zon ?_
   refine AWp_condT rfl ?_
   refine zw1 ?_
   refine zrt ?_
   refine ResQ_1 rfl hcl trivial (Ret_of (bool_f ?_))
   rw [jv_ext]; intro hj; obtain ⟨j1, j2, ⟨j3, j4, j5⟩, j6, j7, j8⟩ := hj
   simp_all
  ·rw [h2]; replace h2 := zcl h2
   refine zg4 ?_
   refine ztG rfl rfl (op_neS rfl Tryz.underlying24 (by kernel_rfl) (by kernel_rfl) (.bool _ _ _ _ _ _ _ _ (by decide) rfl Tryz.underlying4 (.str _ _ _ _ _ _ _ _ (by decide) rfl Tryz.underlying9 (.int _ _ _ _ _ _ _ _ _ _ (by decide) rfl Tryz.underlying3 (.nil _)))) rfl rfl) ?_
   refine zg2 ?_
   refine zsp 28 rfl (fun h3 => ?_) fun h3 => ?_
   ·rw [h3]; replace h3 := zcl h3
    refine zg20 ?_
    refine zg4 ?_
    refine zon ?_
    refine AWp_condT rfl ?_
    refine zw1 ?_
    refine zrt ?_
    refine ResQ_1 rfl hcl trivial (Ret_of (bool_f ?_))
    rw [jv_ext]; intro hj; obtain ⟨j1, j2, ⟨j3, j4, j5⟩, j6, j7, j8⟩ := hj
    simp_all
   ·rw [h3]; replace h3 := zcl h3
    refine zg7 ?_
    refine zsp 35 rfl (fun h4 => ?_) fun h4 => ?_
    ·rw [h4]; replace h4 := zcl h4
     refine zg10 ?_
     refine zg7 ?_
     refine zon ?_
     refine AWp_condT rfl ?_
     refine zw1 ?_
     refine zrt ?_
     refine ResQ_1 rfl hcl trivial (Ret_of (bool_f ?_))
     rw [jv_ext]; intro hj; obtain ⟨j1, j2, ⟨j3, j4, j5⟩, j6, j7, j8⟩ := hj
     simp_all
    ·rw [h4]; replace h4 := zcl h4
     refine zg9 ?_
     refine zsp 44 rfl (fun h5 => ?_) fun h5 => ?_
     ·rw [h5]; replace h5 := zcl h5
      refine zv8 ?_
      refine AWp_condT rfl ?_
      refine zw1 ?_
      refine zrt ?_
      refine ResQ_1 rfl hcl trivial (Ret_of (bool_f ?_))
      rw [jv_ext]; intro hj; obtain ⟨j1, j2, ⟨j3, j4, j5⟩, j6, j7, j8⟩ := hj
      simp_all
     ·rw [h5]; replace h5 := zcl h5
      refine zv8 ?_
      refine AWp_cond rfl (fun h6 => ?_) (fun h6 => ?_)
      ·(try rw [h6]); replace h6 := zcl h6
       refine zw1 ?_
       refine zrt ?_
       refine ResQ_1 rfl hcl trivial (Ret_of (bool_f ?_))
       rw [jv_ext]; intro hj; obtain ⟨j1, j2, ⟨j3, j4, j5⟩, j6, j7, j8⟩ := hj
       simp_all
      ·(try rw [h6]); replace h6 := zcl h6
       have hlen1 : x.l.length = y.l.length := by omega
       have hlen2 : x.m.length = y.m.length := by omega
       refine AWp_skip ?_
       refine AWp_seq ?_
       refine zw1 ?_
       refine AWp_block ?_
       -- loop 0 LIVE 2:box 3:box 4:assign 5:assign
       refine AWp_loop (ι := Nat) (fun i => i ≤ x.l.length ∧ ∀ j : Nat, j < i → x.l[j]? = y.l[j]?) (fun i => ⟨[], [(2, .ptr (σ.length + 0) 0), (3, .ptr (σ.length + 1) 0), (5, .int .i64 (i : Int))]⟩) (fun i => σ ++ [_, _]) (fun i => x.l.length - i) (0) (⟨Nat.zero_le _, fun j hj => absurd hj (by omega)⟩) ?_ rfl (fun i hi => ?_)
       ·exact ⟨rfl, rfl, rfl, rfl, trivial⟩
       obtain ⟨hi1, hi2⟩ := hi
       refine AWp_seq ?_
       refine zw5 ?_
       refine AWp_cond rfl (fun h7 => ?_) (fun h7 => ?_)
       ·(try rw [h7]); replace h7 := zcl h7
        obtain ⟨u, hu⟩ : ∃ u, x.l[i]? = some u := ⟨_, List.getElem?_eq_getElem (show i < x.l.length by omega)⟩
        obtain ⟨w, hw⟩ : ∃ w, y.l[i]? = some w := ⟨_, List.getElem?_eq_getElem (show i < y.l.length by omega)⟩
        have hlm := lsize_mem hu
        refine AWp_skip ?_
        refine AWp_seq ?_
        refine AWp_block ?_
        refine AWp_seq ?_
        refine AWp_drawL #[0, 1, 0, 7, 15, 0, 32, 0, 224, 480, 1023, 2047] Tryz.mixed (by decide +kernel) (by decide +kernel) ?_
        refine zd1 ?_
        refine zp1 ?_
        refine zd1 ?_
        refine yA rfl rfl (fun _ => op_indexAddr rfl Tryz.underlying25 Tryz.sizeOf28 rfl rfl (by omega) (lcells_get hu)) ?_
        rw [vcells_eq u]
        refine zp1 ?_
        refine zd1 ?_
        refine zp1 ?_
        refine zd1 ?_
        refine yA rfl rfl (fun _ => op_indexAddr rfl Tryz.underlying25 Tryz.sizeOf28 rfl rfl (by omega) (lcells_get hw)) ?_
        rw [vcells_eq w]
        refine zp1 ?_
        refine yP rfl rfl (zc rfl (AC2 (vcells_eq u) (vcells_eq w) (ih u w _ (by omega) (lb_get hb5 hu) (lb_get hc5 hw)))) (trivial) ?_
        refine zd1 ?_
        refine RP.nil rfl ?_
        refine zw2 ?_
        refine AWp_cond rfl (fun h8 => ?_) (fun h8 => ?_)
        ·(try rw [h8]); replace h8 := zcl h8
         refine zw1 ?_
         refine zrt ?_
         refine ResQ_1 rfl hcl trivial (Ret_of (bool_f fun e => ?_))
         rw [e] at hu; rw [hu] at hw; cases hw; rw [pb_t rfl] at h8; cases h8
        ·(try rw [h8]); replace h8 := zcl h8
         refine AWp_skip ?_
         refine AWp_regL ?_
         refine zv3 ?_
         have huw := (pb_iff _).1 h8
         refine ⟨i + 1, σ.length + 2, ⟨by omega, fun j hj => ?_⟩, by omega, by simp, ⟨rfl, rfl, rfl, rfl, trivial⟩, closed_own 2 hcl ?_, ?_, take_own 2⟩
         ·by_cases e : j = i
          ·subst e; rw [hu, hw, huw]
          ·exact hi2 j (by omega)
         ·simp [ownLt, AO.cells, AV.ltL, AV.lt]
         ·simp [ltE, AV.lt]
       ·(try rw [h7]); replace h7 := zcl h7
        have hL : x.l = y.l := list_eq_of hlen1 fun j hj => hi2 j (by omega)
        clear hi2 hi1 h7
        refine AWp_exit ?_
        refine AWp_seq ?_
        refine zw1 ?_
        refine AWp_block ?_
        -- loop 1 LIVE 2:box 3:box 4:assign 7:assign
        refine AWp_loop (ι := Nat) (fun i => i ≤ x.m.length ∧ ∀ j : Nat, j < i → x.m[j]? = y.m[j]?) (fun i => ⟨[], [(2, .ptr (σ.length + 0) 0), (3, .ptr (σ.length + 1) 0), (7, .int .i64 (i : Int))]⟩) (fun i => σ ++ [_, _]) (fun i => x.m.length - i) (0) (⟨Nat.zero_le _, fun j hj => absurd hj (by omega)⟩) ?_ rfl (fun i hi => ?_)
        ·exact ⟨rfl, rfl, rfl, rfl, trivial⟩
        obtain ⟨hi3, hi4⟩ := hi
        refine AWp_seq ?_
        refine zw5 ?_
        refine AWp_cond rfl (fun h9 => ?_) (fun h9 => ?_)
        ·(try rw [h9]); replace h9 := zcl h9
         obtain ⟨u, hu⟩ : ∃ u, x.m[i]? = some u := ⟨_, List.getElem?_eq_getElem (show i < x.m.length by omega)⟩
         obtain ⟨w, hw⟩ : ∃ w, y.m[i]? = some w := ⟨_, List.getElem?_eq_getElem (show i < y.m.length by omega)⟩
         have hms := msize_mem hu
         refine AWp_skip ?_
         refine AWp_seq ?_
         refine AWp_block ?_
         refine AWp_seq ?_
         refine AWp_drawL #[0, 1, 0, 7, 15, 31, 0, 64, 0, 448, 960, 1984, 4095, 8191] Tryz.mixed (by decide +kernel) (by decide +kernel) ?_
         refine zd1 ?_
         refine zp1 ?_
         refine zd1 ?_
         refine yA rfl rfl (fun _ => op_indexAddr rfl Tryz.underlying26 Tryz.sizeOf122 rfl rfl (by omega) (mcells_get hu)) ?_
         refine zd1 ?_
         rw [vcells_eq u.2]
         refine zp1 ?_
         refine zd1 ?_
         refine zp1 ?_
         refine zd1 ?_
         refine yA rfl rfl (fun _ => op_indexAddr rfl Tryz.underlying26 Tryz.sizeOf122 rfl rfl (by omega) (mcells_get hw)) ?_
         refine zd1 ?_
         rw [vcells_eq w.2]
         refine zp1 ?_
         refine yP rfl rfl (zc rfl (AC2 (vcells_eq u.2) (vcells_eq w.2) (ih u.2 w.2 _ (by omega) (mb_get hb6 hu).2 (mb_get hc6 hw).2))) (trivial) ?_
         refine zd1 ?_
         refine RP.nil rfl ?_
         refine AWp_seq ?_
         refine AWp_drawL #[0, 1, 3, 7, 15, 7, 63, 127, 255, 7, 519, 7, 3591, 7687, 15879, 32767, 65535] Tryz.mixed (by decide +kernel) (by decide +kernel) ?_
         refine zd3 ?_
         refine zspr 95 rfl (fun h10 => ?_) fun h10 => ?_
         ·rw [h10]; replace h10 := zcl h10
          refine zd10 ?_
          refine zd4 ?_
          refine RP.nil rfl ?_
          refine AWp_condT rfl ?_
          refine zw1 ?_
          refine zrt ?_
          refine ResQ_1 rfl hcl trivial (Ret_of (bool_f fun e => ?_))
          rw [e] at hu; rw [hu] at hw; cases hw; rw [pb_t rfl] at h10; cases h10
         ·rw [h10]; replace h10 := zcl h10
          refine zd1 ?_
          refine zp1 ?_
          refine zd1 ?_
          refine yAG rfl rfl rfl (fun _ => op_indexAddr rfl Tryz.underlying26 Tryz.sizeOf122 rfl rfl (by omega) (mcells_get hu)) ?_
          refine zd1 ?_
          refine zp1 ?_
          refine zd1 ?_
          refine zp1 ?_
          refine zd1 ?_
          refine yAG rfl rfl rfl (fun _ => op_indexAddr rfl Tryz.underlying26 Tryz.sizeOf122 rfl rfl (by omega) (mcells_get hw)) ?_
          refine zd1 ?_
          refine zp1 ?_
          refine zd2 ?_
          refine RP.nil rfl ?_
          refine AWp_cond rfl (fun h11 => ?_) (fun h11 => ?_)
          ·(try rw [h11]); replace h11 := zcl h11
           refine zw1 ?_
           refine zrt ?_
           refine ResQ_1 rfl hcl trivial (Ret_of (bool_f fun e => ?_))
           rw [e] at hu; rw [hu] at hw; cases hw; exact h11 rfl
          ·(try rw [h11]); replace h11 := zcl h11
           refine AWp_skip ?_
           refine AWp_regL ?_
           refine zv3 ?_
           have huw := (pb_iff _).1 h10
           refine ⟨i + 1, σ.length + 2, ⟨by omega, fun j hj => ?_⟩, by omega, by simp, ⟨rfl, rfl, rfl, rfl, trivial⟩, closed_own 2 hcl ?_, ?_, take_own 2⟩
           ·by_cases e : j = i
            ·subst e; rw [hu, hw, Prod.ext h11 huw]
            ·exact hi4 j (by omega)
           ·simp [ownLt, AO.cells, AV.ltL, AV.lt]
           ·simp [ltE, AV.lt]
        ·(try rw [h9]); replace h9 := zcl h9
         have hM : x.m = y.m := list_eq_of hlen2 fun j hj => hi4 j (by omega)
         refine AWp_exit ?_
         refine zw1 ?_
         refine zrt ?_
         refine ResQ_1 rfl hcl trivial (Ret_of (bool_t ((jv_ext x y).2 ?_)))
         simp_all
end Lg
set_option maxRecDepth 20000
set_option maxHeartbeats 4000000
namespace Lg
open Go Go.Proofs Go.RowKit
variable [GLay] [ML]
theorem spell_0 (σ : List AO) : ACalls Tryz.prog 13 [.nili] σ (Ret (.tup [.int .i64 0, .str e0]) σ) := by
 refine ACalls_body Tryz.func13 rfl Tryz.ntmps13 (res2 Tryz.results13) (Nat.le_of_ble_eq_true rfl) (fun hcl hal => ?_)
 refine zw2 ?_
 refine AWp_seq ?_
 refine zw2 ?_
 refine AWp_cond rfl (fun h1 => ?_) (fun h1 => ?_)
 ·(try rw [h1]); replace h1 := zcl h1
  refine zw2 ?_
  refine zrt ?_
  exact ResQ_20 rfl rfl hcl (by simp [AV.lt, AV.ltL]) (Ret_of rfl)
 ·(try rw [h1]); replace h1 := zcl h1
  cases h1

theorem spell_s (p : ByteArray) (code : Int) (σ : List AO) : ACalls Tryz.prog 13 [.iface 105 (.pp [.str p, .int .i64 code])] σ (Ret (.tup [.int .i64 code, .str p]) σ) := by
 refine ACalls_body Tryz.func13 rfl Tryz.ntmps13 (res2 Tryz.results13) (Nat.le_of_ble_eq_true rfl) (fun hcl hal => ?_)
 refine zw2 ?_
 refine AWp_seq ?_
 refine zw2 ?_
 refine AWp_cond rfl (fun h1 => ?_) (fun h1 => ?_)
 ·(try rw [h1]); replace h1 := zcl h1
  cases h1
 ·(try rw [h1]); replace h1 := zcl h1
  refine AWp_skip ?_
  refine zu1 ?_
  refine zt rfl (op_assertT rfl Tryz.underlying105 rfl) ?_
  refine zv5 ?_
  refine AWp_seq ?_
  refine zw5 ?_
  refine AWp_condT rfl ?_
  refine AWp_seq ?_
  refine AWp_drawL #[0, 1, 3, 7, 0, 16, 48, 112, 15, 511] Tryz.mixed (by decide +kernel) (by decide +kernel) ?_
  refine zd3 ?_
  refine zp1 ?_
  refine zd3 ?_
  refine zp1 ?_
  refine zd2 ?_
  refine RP.nil rfl ?_
  refine zrt ?_
  exact ResQ_20 rfl rfl hcl (by simp [AV.lt, AV.ltL]) (Ret_of rfl)

theorem spell_c (z : Int × ByteArray) (σ : List AO) (h : z.1 = 0 → z.2 = e0) : ACalls Tryz.prog 13 [spE z] σ (Ret (.tup [.int .i64 z.1, .str z.2]) σ) := by
  unfold spE
  split
  · rename_i h0; rw [h0, h h0]; exact spell_0 σ
  · exact spell_s z.2 z.1 σ
theorem rsameU (x : JV) (σ : List AO) (h : jb x) : ACalls Tryz.prog 32 [.agg (vcells x), .agg (vcells x)] σ (Ret (.bool true) σ) := by
  have hs := rsame_any (jsize x).toNat x x σ (by have := jsize_pos x; omega) h h
  rwa [pb_t rfl] at hs
theorem sameN_c (l : List JNode) (σ : List AO) (hl : l.length ≤ 1000000) (hz : ∀ n ∈ l, KZ n) : ACalls Tryz.prog 14 [.sl false 4 (noder l), .sl false 4 (noder l)] σ (Ret (.int .i64 1) σ) := by
 refine ACalls_body Tryz.func14 rfl Tryz.ntmps14 (res1 Tryz.results14) (Nat.le_of_ble_eq_true rfl) (fun hcl hal => ?_)
 have hnl := noder_len l
 refine zw1 ?_
 refine AWp_seq ?_
 refine zw5 ?_
 refine AWp_cond rfl (fun h1 => ?_) (fun h1 => ?_)
 ·(try rw [h1]); replace h1 := zcl h1
  first | exact absurd rfl h1 | exact absurd True.intro h1 | omega | (exfalso; simp at h1; done)
 ·(try rw [h1]); replace h1 := zcl h1
  refine AWp_skip ?_
  refine AWp_seq ?_
  refine zw1 ?_
  refine AWp_block ?_
  -- loop 0 LIVE 0:param 1:param 4:assign 5:assign
  refine AWp_loop (ι := Nat) (fun i => i ≤ l.length) (fun i => ⟨[], [(0, .sl false 4 (noder l)), (1, .sl false 4 (noder l)), (5, .int .i64 (i : Int))]⟩) (fun i => σ) (fun i => l.length - i) (0) (Nat.zero_le _) ?_ rfl (fun i hi => ?_)
  ·exact ⟨rfl, rfl, rfl, rfl, trivial⟩
  refine AWp_seq ?_
  refine zw4 ?_
  refine AWp_cond rfl (fun h2 => ?_) (fun h2 => ?_)
  ·(try rw [h2]); replace h2 := zcl h2
   obtain ⟨n, hn⟩ : ∃ n, l[i]? = some n := ⟨_, List.getElem?_eq_getElem (show i < l.length by omega)⟩
   have hkz := hz n (List.mem_of_getElem? hn)
   have hk1 := hkz.1
   have hyl := keyr_len n.keys
   refine AWp_skip ?_
   refine AWp_seq ?_
   refine AWp_block ?_
   refine zu2 ?_
   refine zt rfl (op_indexAddr rfl Tryz.underlying31 Tryz.sizeOf47 rfl rfl (by omega) (noder_get hn)) ?_
   refine zv3 ?_
   refine zu2 ?_
   refine zt rfl (op_indexAddr rfl Tryz.underlying31 Tryz.sizeOf47 rfl rfl (by omega) (noder_get hn)) ?_
   refine zv3 ?_
   refine AWp_seq ?_
   refine zu6 ?_
   refine zsp 37 rfl (fun h3 => ?_) fun h3 => ?_
   ·rw [h3]; replace h3 := zcl h3
    first | exact absurd rfl h3 | exact absurd True.intro h3 | omega | (exfalso; simp at h3; done)
   ·rw [h3]; replace h3 := zcl h3
    refine zg7 ?_
    refine zsp 44 rfl (fun h4 => ?_) fun h4 => ?_
    ·rw [h4]; replace h4 := zcl h4
     first | exact absurd rfl h4 | exact absurd True.intro h4 | omega | (exfalso; simp at h4; done)
    ·rw [h4]; replace h4 := zcl h4
     refine zg7 ?_
     refine zsp 51 rfl (fun h5 => ?_) fun h5 => ?_
     ·rw [h5]; replace h5 := zcl h5
      first | exact absurd rfl h5 | exact absurd True.intro h5 | omega | (exfalso; simp at h5; done)
     ·rw [h5]; replace h5 := zcl h5
      refine zv8 ?_
      refine AWp_cond rfl (fun h6 => ?_) (fun h6 => ?_)
      ·(try rw [h6]); replace h6 := zcl h6
       first | exact absurd rfl h6 | exact absurd True.intro h6 | omega | (exfalso; simp at h6; done)
      ·(try rw [h6]); replace h6 := zcl h6
       refine AWp_skip ?_
       refine zw1 ?_
       refine AWp_block ?_
       -- loop 1 LIVE 4:assign 5:assign 6:alloc 7:alloc 8:assign
       refine AWp_loop (ι := Nat) (fun k => k ≤ n.keys.length) (fun k => ⟨[], [(0, .sl false 4 (noder l)), (1, .sl false 4 (noder l)), (5, .int .i64 (i : Int)), (6, .ptr (σ.length + 0) 0), (7, .ptr (σ.length + 1) 0), (8, .int .i64 (k : Int))]⟩) (fun k => σ ++ [.box [.str n.path, .bool n.all, .bool n.pass, .sl false 10 (keyr n.keys)], .box [.str n.path, .bool n.all, .bool n.pass, .sl false 10 (keyr n.keys)]]) (fun k => n.keys.length - k) (0) (Nat.zero_le _) ?_ rfl (fun k hk => ?_)
       ·exact ⟨rfl, rfl, rfl, rfl, rfl, rfl, rfl, trivial⟩
       refine AWp_seq ?_
       refine zw5 ?_
       refine AWp_cond rfl (fun h7 => ?_) (fun h7 => ?_)
       ·(try rw [h7]); replace h7 := zcl h7
        obtain ⟨q, hq⟩ : ∃ q, n.keys[k]? = some q := ⟨_, List.getElem?_eq_getElem (show k < n.keys.length by omega)⟩
        have hqz := hkz.2 q (List.mem_of_getElem? hq)
        have hqk := hqz.2.2
        have hdl := kidr_len q.kids
        refine AWp_skip ?_
        refine AWp_seq ?_
        refine AWp_block ?_
        refine zu3 ?_
        refine zt rfl (op_indexAddr rfl Tryz.underlying45 Tryz.sizeOf55 rfl rfl (by omega) (keyr_get hq)) ?_
        rw [keyc_eq]
        refine zv3 ?_
        refine zu3 ?_
        refine zt rfl (op_indexAddr rfl Tryz.underlying45 Tryz.sizeOf55 rfl rfl (by omega) (keyr_get hq)) ?_
        rw [keyc_eq]
        refine zv3 ?_
        refine zu4 ?_
        refine zt rfl (zc rfl (vcells_eq q.v ▸ rsameU q.v _ hqz.2.1)) ?_
        refine zv1 ?_
        refine AWp_seq ?_
        refine zu6 ?_
        refine zsp 87 rfl (fun h8 => ?_) fun h8 => ?_
        ·rw [h8]; replace h8 := zcl h8
         first | exact absurd rfl h8 | exact absurd True.intro h8 | omega | (exfalso; simp at h8; done)
        ·rw [h8]; replace h8 := zcl h8
         refine zg4 ?_
         refine zsp 91 rfl (fun h9 => ?_) fun h9 => ?_
         ·rw [h9]; replace h9 := zcl h9
          first | exact absurd rfl h9 | exact absurd True.intro h9 | omega | (exfalso; simp at h9; done)
         ·rw [h9]; replace h9 := zcl h9
          refine zv8 ?_
          refine AWp_cond rfl (fun h10 => ?_) (fun h10 => ?_)
          ·(try rw [h10]); replace h10 := zcl h10
           first | exact absurd rfl h10 | exact absurd True.intro h10 | omega | (exfalso; simp at h10; done)
          ·(try rw [h10]); replace h10 := zcl h10
           refine AWp_skip ?_
           refine zw1 ?_
           refine AWp_block ?_
           -- loop 2 LIVE 4:assign 5:assign 8:assign 9:alloc 10:alloc 12:assign
           refine AWp_loop (ι := Nat) (fun j => j ≤ q.kids.length) (fun j => ⟨[], [(0, .sl false 4 (noder l)), (1, .sl false 4 (noder l)), (5, .int .i64 (i : Int)), (6, .ptr (σ.length + 0) 0), (7, .ptr (σ.length + 1) 0), (8, .int .i64 (k : Int)), (9, .ptr (σ.length + 2) 0), (10, .ptr (σ.length + 3) 0), (12, .int .i64 (j : Int))]⟩) (fun j => σ ++ [.box [.str n.path, .bool n.all, .bool n.pass, .sl false 10 (keyr n.keys)], .box [.str n.path, .bool n.all, .bool n.pass, .sl false 10 (keyr n.keys)], .box [.str q.name, .int .i64 q.v.kind, .bool q.v.b, .bool q.v.n.neg, .str q.v.n.digits, .int .i64 q.v.n.exp, .str q.v.s, .sl false 8 (lcells q.v.l), .sl false 9 (mcells q.v.m), .sl false 2 (kidr q.kids)], .box [.str q.name, .int .i64 q.v.kind, .bool q.v.b, .bool q.v.n.neg, .str q.v.n.digits, .int .i64 q.v.n.exp, .str q.v.s, .sl false 8 (lcells q.v.l), .sl false 9 (mcells q.v.m), .sl false 2 (kidr q.kids)]]) (fun j => q.kids.length - j) (0) (Nat.zero_le _) ?_ rfl (fun j hj => ?_)
           ·exact ⟨rfl, rfl, rfl, rfl, rfl, rfl, rfl, rfl, rfl, rfl, trivial⟩
           refine AWp_seq ?_
           refine zw5 ?_
           refine AWp_cond rfl (fun h11 => ?_) (fun h11 => ?_)
           ·(try rw [h11]); replace h11 := zcl h11
            obtain ⟨d, hd⟩ : ∃ d, q.kids[j]? = some d := ⟨_, List.getElem?_eq_getElem (show j < q.kids.length by omega)⟩
            refine AWp_skip ?_
            refine AWp_seq ?_
            refine AWp_block ?_
            refine AWp_seq ?_
            refine AWp_drawL #[0, 1, 0, 7, 15, 0, 32, 0, 224, 480, 1023] Tryz.mixed (by decide +kernel) (by decide +kernel) ?_
            refine zd1 ?_
            refine zp1 ?_
            refine zd1 ?_
            refine yA rfl rfl (fun _ => op_indexAddr rfl Tryz.underlying53 Tryz.sizeOf57 rfl rfl (by omega) (kidr_get hd)) ?_
            refine zp1 ?_
            refine zd1 ?_
            refine zp1 ?_
            refine zd1 ?_
            refine yA rfl rfl (fun _ => op_indexAddr rfl Tryz.underlying53 Tryz.sizeOf57 rfl rfl (by omega) (kidr_get hd)) ?_
            refine zp1 ?_
            refine yA rfl rfl (fun _ => op_neS rfl Tryz.underlying57 (by kernel_rfl) (by kernel_rfl) (.str _ _ _ _ _ _ _ _ (by decide) rfl Tryz.underlying9 (.int _ _ _ _ _ _ _ _ _ _ (by decide) rfl Tryz.underlying3 (.nil _))) rfl rfl) ?_
            refine RP.nil rfl ?_
            refine AWp_cond rfl (fun h12 => ?_) (fun h12 => ?_)
            ·(try rw [h12]); replace h12 := zcl h12
             first | exact absurd rfl h12 | exact absurd True.intro h12 | omega | (exfalso; simp at h12; done)
            ·(try rw [h12]); replace h12 := zcl h12
             refine AWp_skip ?_
             refine AWp_regL ?_
             refine zv3 ?_
             refine ⟨j + 1, σ.length + 4, by omega, by omega, by simp, ⟨rfl, rfl, rfl, rfl, rfl, rfl, rfl, rfl, rfl, rfl, trivial⟩, closed_own 4 hcl ?_, ?_, take_own 4⟩
             ·simp [ownLt, AO.cells, AV.ltL, AV.lt]
             ·simp [ltE, AV.lt, AV.ltL]
           ·(try rw [h11]); replace h11 := zcl h11
            refine AWp_exit ?_
            refine AWp_regL ?_
            refine zv3 ?_
            refine ⟨k + 1, σ.length + 2, by omega, by omega, by simp, ⟨rfl, rfl, rfl, rfl, rfl, rfl, rfl, trivial⟩, closed_own 2 hcl ?_, ?_, take_own 2⟩
            ·simp [ownLt, AO.cells, AV.ltL, AV.lt]
            ·simp [ltE, AV.lt, AV.ltL]
       ·(try rw [h7]); replace h7 := zcl h7
        refine AWp_exit ?_
        refine AWp_regL ?_
        refine zv3 ?_
        refine ⟨i + 1, σ.length + 0, by omega, by omega, by simp, ⟨rfl, rfl, rfl, rfl, trivial⟩, closed_own 0 hcl ?_, ?_, (take_own 0).trans (List.append_nil _)⟩
        ·simp [ownLt]
        ·simp [ltE, AV.lt, AV.ltL]
  ·(try rw [h2]); replace h2 := zcl h2
   refine AWp_exit ?_
   refine zw1 ?_
   refine zrt ?_
   exact ResQ_10 rfl hcl trivial (Ret_of rfl)
end Lg
set_option maxRecDepth 20000
set_option maxHeartbeats 4000000
namespace Lg
open Go Go.Proofs Go.RowKit
variable [GLay] 
theorem peek_c (s : ByteArray) (at0 deep bad spot : Int) (p : Nat) (σ : List AO) (hσ : σ[p]? = some (.box [.str s, .int .i64 at0, .int .i64 deep, .int .i64 bad, .int .i64 spot])) (h0 : 0 ≤ at0) : ACalls Tryz.prog 57 [.ptr p 0] σ (Ret (.int .i64 (pkv s at0 bad)) σ) := by
 refine ACalls_body Tryz.func57 rfl Tryz.ntmps57 (res1 Tryz.results57) (Nat.le_of_ble_eq_true rfl) (fun hcl hal => ?_)
 have hbl := bat_lt s at0.toNat
 refine zw1 ?_
 refine AWp_seq ?_
 refine AWp_seq ?_
 refine AWp_drawL #[0, 1, 3, 7, 15, 31, 63, 127, 255, 511, 63, 1087, 3135, 7231, 15423, 32767, 65535] Tryz.mixed (by decide +kernel) (by decide +kernel) ?_
 refine zd3 ?_
 refine zp1 ?_
 refine zd2 ?_
 refine zspr 8 rfl (fun h1 => ?_) fun h1 => ?_
 ·rw [h1]; replace h1 := zcl h1
  refine zd10 ?_
  refine zd1 ?_
  refine RP.nil rfl ?_
  refine AWp_condT rfl ?_
  refine zw1 ?_
  refine zrt ?_
  refine ResQ_10 rfl hcl trivial (Ret_of ?_)
  congr 1; unfold pkv; first | (rw [if_pos (by omega)]; done) | (rw [if_neg (by omega)]; done)
 ·rw [h1]; replace h1 := zcl h1
  refine zd3 ?_
  refine zp1 ?_
  refine zd3 ?_
  refine zp1 ?_
  refine zd3 ?_
  refine RP.nil rfl ?_
  refine AWp_cond rfl (fun h2 => ?_) (fun h2 => ?_)
  ·(try rw [h2]); replace h2 := zcl h2
   refine zw1 ?_
   refine zrt ?_
   refine ResQ_10 rfl hcl trivial (Ret_of ?_)
   congr 1; unfold pkv; first | (rw [if_pos (by omega)]; done) | (rw [if_neg (by omega)]; done)
  ·(try rw [h2]); replace h2 := zcl h2
   refine AWp_skip ?_
   refine AWp_seq ?_
   refine AWp_drawL #[0, 1, 3, 7, 0, 16, 48, 112, 255, 511, 1023] Tryz.mixed (by decide +kernel) (by decide +kernel) ?_
   refine zd3 ?_
   refine zp1 ?_
   refine zd3 ?_
   refine zp1 ?_
   refine zd3 ?_
   refine RP.nil rfl ?_
   refine zrt ?_
   refine ResQ_10 rfl hcl trivial (Ret_of ?_)
   congr 1; unfold pkv; first | (rw [if_pos (by omega)]; done) | (rw [if_neg (by omega)]; done)
end Lg
set_option maxRecDepth 20000
set_option maxHeartbeats 4000000
namespace Lg
open Go Go.Proofs Go.RowKit
variable [GLay] 
theorem fail_c (s : ByteArray) (at0 deep bad spot : Int) (p : Nat) (σ : List AO) (hσ : σ[p]? = some (.box [.str s, .int .i64 at0, .int .i64 deep, .int .i64 bad, .int .i64 spot])) (a b : Int) : ACalls Tryz.prog 35 [.ptr p 0, .int .i64 a, .int .i64 b] σ (Ret (.tup []) (σ.set p (.box [.str s, .int .i64 at0, .int .i64 deep, .int .i64 (if bad = 0 then b else bad), .int .i64 (if bad = 0 then a else spot)]))) := by
 have hp : p < σ.length := (List.getElem?_eq_some_iff.1 hσ).1
 refine ACalls_body Tryz.func35 rfl Tryz.ntmps35 (res0 Tryz.results35) (Nat.le_of_ble_eq_true rfl) (fun hcl hal => ?_)
 refine AWp_heap (set_same hσ) ?_
 refine zw5 ?_
 refine AWp_cond rfl (fun h1 => ?_) (fun h1 => ?_)
 ·(try rw [h1]); replace h1 := zcl h1
  refine zw5 ?_
  refine AWp_regL ?_
  refine zv5 ?_
  (try simp only [blockQ, thenQ])
  rw [if_pos h1, if_pos h1]
  exact ResQ_N0 (x := .box [.str s, .int .i64 at0, .int .i64 deep, .int .i64 b, .int .i64 a]) hcl (by simp [AO.cells, AV.ltL, AV.lt]) ⟨rfl, rfl⟩
 ·(try rw [h1]); replace h1 := zcl h1
  refine AWp_skip ?_
  (try simp only [blockQ, thenQ])
  rw [if_neg h1, if_neg h1]
  exact ResQ_N0 hcl (by simp [AO.cells, AV.ltL, AV.lt]) ⟨rfl, rfl⟩
end Lg
set_option maxRecDepth 20000
set_option maxHeartbeats 4000000
namespace Lg
open Go Go.Proofs Go.RowKit
variable [GLay] 
theorem blank_c (s : ByteArray) (a : Nat) (deep bad spot : Int) (p : Nat) (σ : List AO) (hσ : σ[p]? = some (.box [.str s, .int .i64 (a : Int), .int .i64 deep, .int .i64 bad, .int .i64 spot])) (hs : s.size ≤ 1000000) (ha : a ≤ 1000000) : ACalls Tryz.prog 56 [.ptr p 0] σ (Ret (.tup []) (σ.set p (.box [.str s, .int .i64 ((if bad = 0 then blk s a else a : Nat) : Int), .int .i64 deep, .int .i64 bad, .int .i64 spot]))) := by
 have hp : p < σ.length := (List.getElem?_eq_some_iff.1 hσ).1
 refine ACalls_body Tryz.func56 rfl Tryz.ntmps56 (res0 Tryz.results56) (Nat.le_of_ble_eq_true rfl) (fun hcl hal => ?_)
 refine AWp_heap (set_same hσ) ?_
 refine AWp_block ?_
 -- loop 0 LIVE 0:param
 refine AWp_loop (ι := Nat) (fun i => (bad = 0 → blk s i = blk s a) ∧ (bad ≠ 0 → i = a) ∧ i ≤ 1000000) (fun i => ⟨[], [(0, .ptr p 0)]⟩) (fun i => σ.set p (.box [.str s, .int .i64 (i : Int), .int .i64 deep, .int .i64 bad, .int .i64 spot])) (fun i => s.size - i) (a) (⟨fun _ => rfl, fun _ => rfl, ha⟩) ?_ rfl (fun i hi => ?_)
 ·exact ⟨rfl, rfl, trivial⟩
 obtain ⟨hi1, hi2, hi3⟩ := hi
 refine AWp_seq ?_
 refine zu1 ?_
 refine zt rfl (zc rfl (peek_c s (i : Int) deep bad spot p _ (get_set hp) (by omega))) ?_
 refine zg2 ?_
 refine zsp 5 rfl (fun h1 => ?_) fun h1 => ?_
 ·rw [h1]; replace h1 := zcl h1
  refine zg10 ?_
  refine zg4 ?_
  refine zon ?_
  refine AWp_condT rfl ?_
  refine AWp_skip ?_
  refine AWp_block ?_
  refine AWp_regL ?_
  refine zv8 ?_
  have hk := pk_yes (s := s) (a := i) (bad := bad) (by omega)
  have hbl : isbl (bat s i) := by simp only [isbl]; omega
  refine ⟨i + 1, σ.length, ⟨fun h => by rw [← blk_yes hk.2.1 hbl]; exact hi1 h, fun h => absurd hk.1 h, by omega⟩, by omega, by simp, ⟨rfl, rfl, trivial⟩, closed_set (x := .box [.str s, .int .i64 ((i : Int) + 1), .int .i64 deep, .int .i64 bad, .int .i64 spot]) hcl (by simp [AO.cells, AV.ltL, AV.lt]), ?_, take_set ?_⟩
  ·simp [ltE, AV.lt]; omega
  ·rw [Int.natCast_add]; rfl
 ·rw [h1]; replace h1 := zcl h1
  refine zg1 ?_
  refine ztG rfl rfl (zc rfl (peek_c s (i : Int) deep bad spot p _ (get_set hp) (by omega))) ?_
  refine zg3 ?_
  refine zsp 10 rfl (fun h2 => ?_) fun h2 => ?_
  ·rw [h2]; replace h2 := zcl h2
   refine zv9 ?_
   refine AWp_condT rfl ?_
   refine AWp_skip ?_
   refine AWp_block ?_
   refine AWp_regL ?_
   refine zv8 ?_
   have hk := pk_yes (s := s) (a := i) (bad := bad) (by omega)
   have hbl : isbl (bat s i) := by simp only [isbl]; omega
   refine ⟨i + 1, σ.length, ⟨fun h => by rw [← blk_yes hk.2.1 hbl]; exact hi1 h, fun h => absurd hk.1 h, by omega⟩, by omega, by simp, ⟨rfl, rfl, trivial⟩, closed_set (x := .box [.str s, .int .i64 ((i : Int) + 1), .int .i64 deep, .int .i64 bad, .int .i64 spot]) hcl (by simp [AO.cells, AV.ltL, AV.lt]), ?_, take_set ?_⟩
   ·simp [ltE, AV.lt]; omega
   ·rw [Int.natCast_add]; rfl
  ·rw [h2]; replace h2 := zcl h2
   refine zg1 ?_
   refine ztG rfl rfl (zc rfl (peek_c s (i : Int) deep bad spot p _ (get_set hp) (by omega))) ?_
   refine zg3 ?_
   refine zsp 15 rfl (fun h3 => ?_) fun h3 => ?_
   ·rw [h3]; replace h3 := zcl h3
    refine zv4 ?_
    refine AWp_condT rfl ?_
    refine AWp_skip ?_
    refine AWp_block ?_
    refine AWp_regL ?_
    refine zv8 ?_
    have hk := pk_yes (s := s) (a := i) (bad := bad) (by omega)
    have hbl : isbl (bat s i) := by simp only [isbl]; omega
    refine ⟨i + 1, σ.length, ⟨fun h => by rw [← blk_yes hk.2.1 hbl]; exact hi1 h, fun h => absurd hk.1 h, by omega⟩, by omega, by simp, ⟨rfl, rfl, trivial⟩, closed_set (x := .box [.str s, .int .i64 ((i : Int) + 1), .int .i64 deep, .int .i64 bad, .int .i64 spot]) hcl (by simp [AO.cells, AV.ltL, AV.lt]), ?_, take_set ?_⟩
    ·simp [ltE, AV.lt]; omega
    ·rw [Int.natCast_add]; rfl
   ·rw [h3]; replace h3 := zcl h3
    refine zg1 ?_
    refine ztG rfl rfl (zc rfl (peek_c s (i : Int) deep bad spot p _ (get_set hp) (by omega))) ?_
    refine zv2 ?_
    refine AWp_cond rfl (fun h4 => ?_) (fun h4 => ?_)
    ·(try rw [h4]); replace h4 := zcl h4
     refine AWp_skip ?_
     refine AWp_block ?_
     refine AWp_regL ?_
     refine zv8 ?_
     have hk := pk_yes (s := s) (a := i) (bad := bad) (by omega)
     have hbl : isbl (bat s i) := by simp only [isbl]; omega
     refine ⟨i + 1, σ.length, ⟨fun h => by rw [← blk_yes hk.2.1 hbl]; exact hi1 h, fun h => absurd hk.1 h, by omega⟩, by omega, by simp, ⟨rfl, rfl, trivial⟩, closed_set (x := .box [.str s, .int .i64 ((i : Int) + 1), .int .i64 deep, .int .i64 bad, .int .i64 spot]) hcl (by simp [AO.cells, AV.ltL, AV.lt]), ?_, take_set ?_⟩
     ·simp [ltE, AV.lt]; omega
     ·rw [Int.natCast_add]; rfl
    ·(try rw [h4]); replace h4 := zcl h4
     refine AWp_exit ?_
     (try simp only [blockQ, thenQ])
     have hfin : i = (if bad = 0 then blk s a else a) := by
      by_cases hb : bad = 0
      ·rw [if_pos hb, ← hi1 hb, blk_no]; intro hx; have := pk_in (s := s) hb hx.1; have := hx.2; simp only [isbl] at this; omega
      ·rw [if_neg hb]; exact hi2 hb
     rw [← hfin]
     exact ResQ_N0 (x := .box [.str s, .int .i64 (i : Int), .int .i64 deep, .int .i64 bad, .int .i64 spot]) hcl (by simp [AO.cells, AV.ltL, AV.lt]) ⟨rfl, rfl⟩
end Lg
set_option maxRecDepth 20000
set_option maxHeartbeats 4000000
namespace Lg
open Go Go.Proofs Go.RowKit
variable [GLay] 
theorem open_c (s : ByteArray) (a : Nat) (deep bad spot : Int) (p : Nat) (σ : List AO) (hσ : σ[p]? = some (.box [.str s, .int .i64 (a : Int), .int .i64 deep, .int .i64 bad, .int .i64 spot])) (hs : s.size ≤ 1000000) (ha : a < 1000000) (hd : 0 ≤ deep) (hd2 : deep ≤ 1000000) : ACalls Tryz.prog 99 [.ptr p 0] σ (Ret (.tup []) (σ.set p (.box [.str s, .int .i64 ((if (if deep = 32 then (if bad = 0 then 3 else bad) else bad) = 0 then blk s (a + 1) else a + 1 : Nat) : Int), .int .i64 (deep + 1), .int .i64 (if deep = 32 then (if bad = 0 then 3 else bad) else bad), .int .i64 (if deep = 32 then (if bad = 0 then (a : Int) else spot) else spot)]))) := by
 have hp : p < σ.length := (List.getElem?_eq_some_iff.1 hσ).1
 refine ACalls_body Tryz.func99 rfl Tryz.ntmps99 (res0 Tryz.results99) (Nat.le_of_ble_eq_true rfl) (fun hcl hal => ?_)
 refine AWp_heap (set_same hσ) ?_
 refine AWp_seq ?_
 refine zw5 ?_
 refine AWp_cond rfl (fun h1 => ?_) (fun h1 => ?_)
 ·(try rw [h1]); replace h1 := zcl h1
  refine AWp_regL ?_
  refine zg5 ?_
  refine zt rfl (zc rfl (callS (fail_c s (a : Int) deep bad spot p _ (get_set hp) (a : Int) 3))) ?_
  refine zon ?_
  refine zw8 ?_
  refine zw8 ?_
  refine AWp_regL ?_
  refine zg1 ?_
  refine zt rfl (zc rfl (callS (blank_c s (a + 1) (deep + 1) _ _ p _ (get_set hp) hs (by omega)))) ?_
  refine zon ?_
  (try simp only [blockQ, thenQ])
  simp only [if_pos h1]
  exact ResQ_N0 hcl (by simp [AO.cells, AV.ltL, AV.lt]) ⟨rfl, rfl⟩
 ·(try rw [h1]); replace h1 := zcl h1
  refine AWp_skip ?_
  refine zw8 ?_
  refine zw8 ?_
  refine AWp_regL ?_
  refine zg1 ?_
  refine zt rfl (zc rfl (callS (blank_c s (a + 1) (deep + 1) _ _ p _ (get_set hp) hs (by omega)))) ?_
  refine zon ?_
  (try simp only [blockQ, thenQ])
  simp only [if_neg h1]
  exact ResQ_N0 hcl (by simp [AO.cells, AV.ltL, AV.lt]) ⟨rfl, rfl⟩
end Lg
set_option maxRecDepth 20000
set_option maxHeartbeats 4000000
namespace Lg
open Go Go.Proofs Go.RowKit
variable [GLay] 
theorem run_n (s : ByteArray) (a : Nat) (σ : List AO) (hs : s.size ≤ 1000000) (ha : a ≤ 1000000) : ACalls Tryz.prog 70 [.str s, .int .i64 (a : Int)] σ (Ret (.int .i64 (runl s a : Int)) σ) := by
  have := run_c s (a : Int) σ (by omega) (by omega) (by omega)
  simpa using this
theorem end_c (s : ByteArray) (a : Nat) (σ : List AO) (hs : s.size ≤ 1000000) (ha : a ≤ s.size) : ACalls Tryz.prog 62 [.str s, .int .i64 (a : Int)] σ (Ret (.tup [.int .i64 ((rEnd s a).1 : Int), .bool (rEnd s a).2]) σ) := by
 refine ACalls_body Tryz.func62 rfl Tryz.ntmps62 (res2 Tryz.results62) (Nat.le_of_ble_eq_true rfl) (fun hcl hal => ?_)
 have hi1 := eSign_le ha
 have hr1 := runl_le s (eSign s a)
 refine zw2 ?_
 refine zw2 ?_
 refine AWp_join (ι := Unit) (fun b => True) (fun b => ⟨[], [(0, .str s), (6, .int .i64 (eSign s a : Int))]⟩) (fun b => σ) ?_ (fun b hj => ?_)
 ·skip
  refine zu5 ?_
  refine zsp 13 rfl (fun h1 => ?_) fun h1 => ?_
  ·rw [h1]; (try simp only [decide_eq_true_eq, decide_eq_false_iff_not, Bool.not_eq_true', Bool.not_eq_false', Int.not_lt, Int.not_le, Bool.not_true, Bool.not_false, Int.toNat_natCast, tn1, tn2, tnn, bne_iff_ne, beq_iff_eq, beq_eq_false_iff_ne, ne_eq, Decidable.not_not] at h1)
   refine zv5 ?_
   refine AWp_cond rfl (fun h2 => ?_) (fun h2 => ?_)
   ·(try rw [h2]); (try simp only [decide_eq_true_eq, decide_eq_false_iff_not, Bool.not_eq_true', Bool.not_eq_false', Int.not_lt, Int.not_le, Bool.not_true, Bool.not_false, Int.toNat_natCast, tn1, tn2, tnn, bne_iff_ne, beq_iff_eq, beq_eq_false_iff_ne, ne_eq, Decidable.not_not] at h2)
    refine AWp_regL ?_
    refine zv3 ?_
    refine ⟨(), trivial, ⟨rfl, rfl, ?_, trivial⟩, rfl⟩
    unfold eSign; first | (rw [if_pos (by omega)]; rfl) | (rw [if_neg (by omega)]; rfl)
   ·(try rw [h2]); (try simp only [decide_eq_true_eq, decide_eq_false_iff_not, Bool.not_eq_true', Bool.not_eq_false', Int.not_lt, Int.not_le, Bool.not_true, Bool.not_false, Int.toNat_natCast, tn1, tn2, tnn, bne_iff_ne, beq_iff_eq, beq_eq_false_iff_ne, ne_eq, Decidable.not_not] at h2)
    refine AWp_skip ?_
    refine ⟨(), trivial, ⟨rfl, rfl, ?_, trivial⟩, rfl⟩
    unfold eSign; first | (rw [if_pos (by omega)]; rfl) | (rw [if_neg (by omega)]; rfl)
  ·rw [h1]; (try simp only [decide_eq_true_eq, decide_eq_false_iff_not, Bool.not_eq_true', Bool.not_eq_false', Int.not_lt, Int.not_le, Bool.not_true, Bool.not_false, Int.toNat_natCast, tn1, tn2, tnn, bne_iff_ne, beq_iff_eq, beq_eq_false_iff_ne, ne_eq, Decidable.not_not] at h1)
   refine zv5 ?_
   refine AWp_condF rfl ?_
   refine AWp_skip ?_
   refine ⟨(), trivial, ⟨rfl, rfl, ?_, trivial⟩, rfl⟩
   unfold eSign; first | (rw [if_pos (by omega)]; rfl) | (rw [if_neg (by omega)]; rfl)
 ·skip
  refine zu2 ?_
  refine zt rfl (zc rfl (run_n s (eSign s a) _ hs (by omega))) ?_
  refine zv1 ?_
  refine AWp_seq ?_
  refine zw2 ?_
  refine AWp_cond rfl (fun h3 => ?_) (fun h3 => ?_)
  ·(try rw [h3]); (try simp only [decide_eq_true_eq, decide_eq_false_iff_not, Bool.not_eq_true', Bool.not_eq_false', Int.not_lt, Int.not_le, Bool.not_true, Bool.not_false, Int.toNat_natCast, tn1, tn2, tnn, bne_iff_ne, beq_iff_eq, beq_eq_false_iff_ne, ne_eq, Decidable.not_not] at h3)
   refine zw3 ?_
   refine zrt ?_
   have hE : rEnd s a = (eSign s a, false) := by unfold rEnd; rw [if_pos (by omega)]
   rw [hE]; exact ResQ_20 rfl rfl hcl (by simp [AV.lt, AV.ltL]) (Ret_of rfl)
  ·(try rw [h3]); (try simp only [decide_eq_true_eq, decide_eq_false_iff_not, Bool.not_eq_true', Bool.not_eq_false', Int.not_lt, Int.not_le, Bool.not_true, Bool.not_false, Int.toNat_natCast, tn1, tn2, tnn, bne_iff_ne, beq_iff_eq, beq_eq_false_iff_ne, ne_eq, Decidable.not_not] at h3)
   refine AWp_skip ?_
   refine AWp_join (ι := Unit) (fun b => True) (fun b => ⟨[], [(0, .str s), (6, .int .i64 (eSign s a : Int)), (7, .int .i64 (eInt s (eSign s a) : Int))]⟩) (fun b => σ) ?_ (fun b hj => ?_)
   ·skip
    refine zw4 ?_
    refine AWp_cond rfl (fun h4 => ?_) (fun h4 => ?_)
    ·(try rw [h4]); (try simp only [decide_eq_true_eq, decide_eq_false_iff_not, Bool.not_eq_true', Bool.not_eq_false', Int.not_lt, Int.not_le, Bool.not_true, Bool.not_false, Int.toNat_natCast, tn1, tn2, tnn, bne_iff_ne, beq_iff_eq, beq_eq_false_iff_ne, ne_eq, Decidable.not_not] at h4)
     refine AWp_regL ?_
     refine zv1 ?_
     refine ⟨(), trivial, ⟨rfl, rfl, rfl, ?_, trivial⟩, rfl⟩
     unfold eInt; first | (rw [if_pos (by omega)]; rfl) | (rw [if_neg (by omega)]; rfl)
    ·(try rw [h4]); (try simp only [decide_eq_true_eq, decide_eq_false_iff_not, Bool.not_eq_true', Bool.not_eq_false', Int.not_lt, Int.not_le, Bool.not_true, Bool.not_false, Int.toNat_natCast, tn1, tn2, tnn, bne_iff_ne, beq_iff_eq, beq_eq_false_iff_ne, ne_eq, Decidable.not_not] at h4)
     refine AWp_skip ?_
     refine ⟨(), trivial, ⟨rfl, rfl, rfl, ?_, trivial⟩, rfl⟩
     unfold eInt; first | (rw [if_pos (by omega)]; rfl) | (rw [if_neg (by omega)]; rfl)
   ·skip
    have hi2 := eInt_le hi1.2 (by omega)
    have hE : rEnd s a = eFrac s (eSign s a + eInt s (eSign s a)) := by unfold rEnd; rw [if_neg (by omega)]
    generalize hk : (eSign s a + eInt s (eSign s a)) = k at hE
    have hr2 := runl_le s (k + 1)
    refine zu3 ?_
    rw [← Int.natCast_add, hk]
    refine zv1 ?_
    refine AWp_join (ι := Nat) (fun j => rEnd s a = ePow s j ∧ j ≤ s.size) (fun j => ⟨[], [(0, .str s), (6, .int .i64 (j : Int))]⟩) (fun j => σ) ?_ (fun j hj => ?_)
    ·skip
     refine zu5 ?_
     refine zsp 38 rfl (fun h5 => ?_) fun h5 => ?_
     ·rw [h5]; (try simp only [decide_eq_true_eq, decide_eq_false_iff_not, Bool.not_eq_true', Bool.not_eq_false', Int.not_lt, Int.not_le, Bool.not_true, Bool.not_false, Int.toNat_natCast, tn1, tn2, tnn, bne_iff_ne, beq_iff_eq, beq_eq_false_iff_ne, ne_eq, Decidable.not_not] at h5)
      refine zv5 ?_
      refine AWp_cond rfl (fun h6 => ?_) (fun h6 => ?_)
      ·(try rw [h6]); (try simp only [decide_eq_true_eq, decide_eq_false_iff_not, Bool.not_eq_true', Bool.not_eq_false', Int.not_lt, Int.not_le, Bool.not_true, Bool.not_false, Int.toNat_natCast, tn1, tn2, tnn, bne_iff_ne, beq_iff_eq, beq_eq_false_iff_ne, ne_eq, Decidable.not_not] at h6)
       refine zu3 ?_
       refine zt rfl (zc rfl (run_n s (k + 1) _ hs (by omega))) ?_
       refine zv1 ?_
       refine zw5 ?_
       refine zw2 ?_
       refine AWp_cond rfl (fun h7 => ?_) (fun h7 => ?_)
       ·(try rw [h7]); (try simp only [decide_eq_true_eq, decide_eq_false_iff_not, Bool.not_eq_true', Bool.not_eq_false', Int.not_lt, Int.not_le, Bool.not_true, Bool.not_false, Int.toNat_natCast, tn1, tn2, tnn, bne_iff_ne, beq_iff_eq, beq_eq_false_iff_ne, ne_eq, Decidable.not_not] at h7)
        refine zw3 ?_
        refine zrt ?_
        have hE : rEnd s a = (k + 1, false) := by rw [hE]; unfold eFrac; rw [if_pos (by omega), if_pos (by omega)]
        rw [hE]; refine ResQ_20 rfl rfl hcl (by simp [AV.lt, AV.ltL]) (Ret_of ?_)
        congr 3; dsimp only; omega
       ·(try rw [h7]); (try simp only [decide_eq_true_eq, decide_eq_false_iff_not, Bool.not_eq_true', Bool.not_eq_false', Int.not_lt, Int.not_le, Bool.not_true, Bool.not_false, Int.toNat_natCast, tn1, tn2, tnn, bne_iff_ne, beq_iff_eq, beq_eq_false_iff_ne, ne_eq, Decidable.not_not] at h7)
        refine AWp_skip ?_
        first | refine ⟨k + 1 + runl s (k + 1), ⟨by rw [hE]; unfold eFrac; rw [if_pos (by omega), if_neg (by omega)], by omega⟩, ⟨rfl, rfl, rfl, trivial⟩, rfl⟩ | refine ⟨k, ⟨by rw [hE]; unfold eFrac; rw [if_neg (by omega)], by omega⟩, ⟨rfl, rfl, rfl, trivial⟩, rfl⟩
      ·(try rw [h6]); (try simp only [decide_eq_true_eq, decide_eq_false_iff_not, Bool.not_eq_true', Bool.not_eq_false', Int.not_lt, Int.not_le, Bool.not_true, Bool.not_false, Int.toNat_natCast, tn1, tn2, tnn, bne_iff_ne, beq_iff_eq, beq_eq_false_iff_ne, ne_eq, Decidable.not_not] at h6)
       refine AWp_skip ?_
       first | refine ⟨k + 1 + runl s (k + 1), ⟨by rw [hE]; unfold eFrac; rw [if_pos (by omega), if_neg (by omega)], by omega⟩, ⟨rfl, rfl, rfl, trivial⟩, rfl⟩ | refine ⟨k, ⟨by rw [hE]; unfold eFrac; rw [if_neg (by omega)], by omega⟩, ⟨rfl, rfl, rfl, trivial⟩, rfl⟩
     ·rw [h5]; (try simp only [decide_eq_true_eq, decide_eq_false_iff_not, Bool.not_eq_true', Bool.not_eq_false', Int.not_lt, Int.not_le, Bool.not_true, Bool.not_false, Int.toNat_natCast, tn1, tn2, tnn, bne_iff_ne, beq_iff_eq, beq_eq_false_iff_ne, ne_eq, Decidable.not_not] at h5)
      refine zv5 ?_
      refine AWp_condF rfl ?_
      refine AWp_skip ?_
      first | refine ⟨k + 1 + runl s (k + 1), ⟨by rw [hE]; unfold eFrac; rw [if_pos (by omega), if_neg (by omega)], by omega⟩, ⟨rfl, rfl, rfl, trivial⟩, rfl⟩ | refine ⟨k, ⟨by rw [hE]; unfold eFrac; rw [if_neg (by omega)], by omega⟩, ⟨rfl, rfl, rfl, trivial⟩, rfl⟩
    ·skip
     obtain ⟨hE, hj⟩ := hj
     refine AWp_seq ?_
     refine zu5 ?_
     refine zsp 59 rfl (fun h8 => ?_) fun h8 => ?_
     ·rw [h8]; (try simp only [decide_eq_true_eq, decide_eq_false_iff_not, Bool.not_eq_true', Bool.not_eq_false', Int.not_lt, Int.not_le, Bool.not_true, Bool.not_false, Int.toNat_natCast, tn1, tn2, tnn, bne_iff_ne, beq_iff_eq, beq_eq_false_iff_ne, ne_eq, Decidable.not_not] at h8)
      refine zg5 ?_
      refine zsp 64 rfl (fun h9 => ?_) fun h9 => ?_
      ·rw [h9]; (try simp only [decide_eq_true_eq, decide_eq_false_iff_not, Bool.not_eq_true', Bool.not_eq_false', Int.not_lt, Int.not_le, Bool.not_true, Bool.not_false, Int.toNat_natCast, tn1, tn2, tnn, bne_iff_ne, beq_iff_eq, beq_eq_false_iff_ne, ne_eq, Decidable.not_not] at h9)
       refine zv6 ?_
       refine AWp_condT rfl ?_
       refine zw3 ?_
       refine AWp_join (ι := Unit) (fun b => True) (fun b => ⟨[], [(0, .str s), (6, .int .i64 (eSg s (j + 1) : Int))]⟩) (fun b => σ) ?_ (fun b hj => ?_)
       ·skip
        refine zu5 ?_
        refine zsp 77 rfl (fun h10 => ?_) fun h10 => ?_
        ·rw [h10]; (try simp only [decide_eq_true_eq, decide_eq_false_iff_not, Bool.not_eq_true', Bool.not_eq_false', Int.not_lt, Int.not_le, Bool.not_true, Bool.not_false, Int.toNat_natCast, tn1, tn2, tnn, bne_iff_ne, beq_iff_eq, beq_eq_false_iff_ne, ne_eq, Decidable.not_not] at h10)
         refine zg5 ?_
         refine zsp 82 rfl (fun h11 => ?_) fun h11 => ?_
         ·rw [h11]; (try simp only [decide_eq_true_eq, decide_eq_false_iff_not, Bool.not_eq_true', Bool.not_eq_false', Int.not_lt, Int.not_le, Bool.not_true, Bool.not_false, Int.toNat_natCast, tn1, tn2, tnn, bne_iff_ne, beq_iff_eq, beq_eq_false_iff_ne, ne_eq, Decidable.not_not] at h11)
          refine zv6 ?_
          refine AWp_condT rfl ?_
          refine AWp_regL ?_
          refine zv3 ?_
          refine ⟨(), trivial, ⟨rfl, rfl, ?_, trivial⟩, rfl⟩
          unfold eSg; first | (rw [if_pos (by omega)]; rfl) | (rw [if_neg (by omega)]; rfl)
         ·rw [h11]; (try simp only [decide_eq_true_eq, decide_eq_false_iff_not, Bool.not_eq_true', Bool.not_eq_false', Int.not_lt, Int.not_le, Bool.not_true, Bool.not_false, Int.toNat_natCast, tn1, tn2, tnn, bne_iff_ne, beq_iff_eq, beq_eq_false_iff_ne, ne_eq, Decidable.not_not] at h11)
          refine zv6 ?_
          refine AWp_cond rfl (fun h12 => ?_) (fun h12 => ?_)
          ·(try rw [h12]); (try simp only [decide_eq_true_eq, decide_eq_false_iff_not, Bool.not_eq_true', Bool.not_eq_false', Int.not_lt, Int.not_le, Bool.not_true, Bool.not_false, Int.toNat_natCast, tn1, tn2, tnn, bne_iff_ne, beq_iff_eq, beq_eq_false_iff_ne, ne_eq, Decidable.not_not] at h12)
           refine AWp_regL ?_
           refine zv3 ?_
           refine ⟨(), trivial, ⟨rfl, rfl, ?_, trivial⟩, rfl⟩
           unfold eSg; first | (rw [if_pos (by omega)]; rfl) | (rw [if_neg (by omega)]; rfl)
          ·(try rw [h12]); (try simp only [decide_eq_true_eq, decide_eq_false_iff_not, Bool.not_eq_true', Bool.not_eq_false', Int.not_lt, Int.not_le, Bool.not_true, Bool.not_false, Int.toNat_natCast, tn1, tn2, tnn, bne_iff_ne, beq_iff_eq, beq_eq_false_iff_ne, ne_eq, Decidable.not_not] at h12)
           refine AWp_skip ?_
           refine ⟨(), trivial, ⟨rfl, rfl, ?_, trivial⟩, rfl⟩
           unfold eSg; first | (rw [if_pos (by omega)]; rfl) | (rw [if_neg (by omega)]; rfl)
        ·rw [h10]; (try simp only [decide_eq_true_eq, decide_eq_false_iff_not, Bool.not_eq_true', Bool.not_eq_false', Int.not_lt, Int.not_le, Bool.not_true, Bool.not_false, Int.toNat_natCast, tn1, tn2, tnn, bne_iff_ne, beq_iff_eq, beq_eq_false_iff_ne, ne_eq, Decidable.not_not] at h10)
         refine zg10 ?_
         refine zg1 ?_
         refine zon ?_
         refine AWp_condF rfl ?_
         refine AWp_skip ?_
         refine ⟨(), trivial, ⟨rfl, rfl, ?_, trivial⟩, rfl⟩
         unfold eSg; first | (rw [if_pos (by omega)]; rfl) | (rw [if_neg (by omega)]; rfl)
       ·skip
        have hi3 := eSg_le (s := s) (a := j + 1) (by omega)
        have hr3 := runl_le s (eSg s (j + 1))
        refine zu2 ?_
        refine zt rfl (zc rfl (run_n s (eSg s (j + 1)) _ hs (by omega))) ?_
        refine zv1 ?_
        refine zw4 ?_
        refine zw2 ?_
        refine AWp_cond rfl (fun h13 => ?_) (fun h13 => ?_)
        ·(try rw [h13]); (try simp only [decide_eq_true_eq, decide_eq_false_iff_not, Bool.not_eq_true', Bool.not_eq_false', Int.not_lt, Int.not_le, Bool.not_true, Bool.not_false, Int.toNat_natCast, tn1, tn2, tnn, bne_iff_ne, beq_iff_eq, beq_eq_false_iff_ne, ne_eq, Decidable.not_not] at h13)
         refine zw3 ?_
         refine zrt ?_
         first | (have hE2 : rEnd s a = (eSg s (j + 1), false) := by rw [hE]; unfold ePow; rw [if_pos (by omega), if_pos (by omega)]); rw [hE2]; (refine ResQ_20 rfl rfl hcl (by simp [AV.lt, AV.ltL]) (Ret_of ?_)); congr 3; dsimp only; omega | (have hE2 : rEnd s a = (eSg s (j + 1) + runl s (eSg s (j + 1)), true) := by rw [hE]; unfold ePow; rw [if_pos (by omega), if_neg (by omega)]); rw [hE2]; exact ResQ_20 rfl rfl hcl (by simp [AV.lt, AV.ltL]) (Ret_of rfl) | (have hE2 : rEnd s a = (j, true) := by rw [hE]; unfold ePow; rw [if_neg (by omega)]); rw [hE2]; exact ResQ_20 rfl rfl hcl (by simp [AV.lt, AV.ltL]) (Ret_of rfl)
        ·(try rw [h13]); (try simp only [decide_eq_true_eq, decide_eq_false_iff_not, Bool.not_eq_true', Bool.not_eq_false', Int.not_lt, Int.not_le, Bool.not_true, Bool.not_false, Int.toNat_natCast, tn1, tn2, tnn, bne_iff_ne, beq_iff_eq, beq_eq_false_iff_ne, ne_eq, Decidable.not_not] at h13)
         refine AWp_skip ?_
         refine zw3 ?_
         refine zrt ?_
         first | (have hE2 : rEnd s a = (eSg s (j + 1), false) := by rw [hE]; unfold ePow; rw [if_pos (by omega), if_pos (by omega)]); rw [hE2]; (refine ResQ_20 rfl rfl hcl (by simp [AV.lt, AV.ltL]) (Ret_of ?_)); congr 3; dsimp only; omega | (have hE2 : rEnd s a = (eSg s (j + 1) + runl s (eSg s (j + 1)), true) := by rw [hE]; unfold ePow; rw [if_pos (by omega), if_neg (by omega)]); rw [hE2]; exact ResQ_20 rfl rfl hcl (by simp [AV.lt, AV.ltL]) (Ret_of rfl) | (have hE2 : rEnd s a = (j, true) := by rw [hE]; unfold ePow; rw [if_neg (by omega)]); rw [hE2]; exact ResQ_20 rfl rfl hcl (by simp [AV.lt, AV.ltL]) (Ret_of rfl)
      ·rw [h9]; (try simp only [decide_eq_true_eq, decide_eq_false_iff_not, Bool.not_eq_true', Bool.not_eq_false', Int.not_lt, Int.not_le, Bool.not_true, Bool.not_false, Int.toNat_natCast, tn1, tn2, tnn, bne_iff_ne, beq_iff_eq, beq_eq_false_iff_ne, ne_eq, Decidable.not_not] at h9)
       refine zv6 ?_
       refine AWp_cond rfl (fun h14 => ?_) (fun h14 => ?_)
       ·(try rw [h14]); (try simp only [decide_eq_true_eq, decide_eq_false_iff_not, Bool.not_eq_true', Bool.not_eq_false', Int.not_lt, Int.not_le, Bool.not_true, Bool.not_false, Int.toNat_natCast, tn1, tn2, tnn, bne_iff_ne, beq_iff_eq, beq_eq_false_iff_ne, ne_eq, Decidable.not_not] at h14)
        refine zw3 ?_
        refine AWp_join (ι := Unit) (fun b => True) (fun b => ⟨[], [(0, .str s), (6, .int .i64 (eSg s (j + 1) : Int))]⟩) (fun b => σ) ?_ (fun b hj => ?_)
        ·skip
         refine zu5 ?_
         refine zsp 77 rfl (fun h15 => ?_) fun h15 => ?_
         ·rw [h15]; (try simp only [decide_eq_true_eq, decide_eq_false_iff_not, Bool.not_eq_true', Bool.not_eq_false', Int.not_lt, Int.not_le, Bool.not_true, Bool.not_false, Int.toNat_natCast, tn1, tn2, tnn, bne_iff_ne, beq_iff_eq, beq_eq_false_iff_ne, ne_eq, Decidable.not_not] at h15)
          refine zg5 ?_
          refine zsp 82 rfl (fun h16 => ?_) fun h16 => ?_
          ·rw [h16]; (try simp only [decide_eq_true_eq, decide_eq_false_iff_not, Bool.not_eq_true', Bool.not_eq_false', Int.not_lt, Int.not_le, Bool.not_true, Bool.not_false, Int.toNat_natCast, tn1, tn2, tnn, bne_iff_ne, beq_iff_eq, beq_eq_false_iff_ne, ne_eq, Decidable.not_not] at h16)
           refine zv6 ?_
           refine AWp_condT rfl ?_
           refine AWp_regL ?_
           refine zv3 ?_
           refine ⟨(), trivial, ⟨rfl, rfl, ?_, trivial⟩, rfl⟩
           unfold eSg; first | (rw [if_pos (by omega)]; rfl) | (rw [if_neg (by omega)]; rfl)
          ·rw [h16]; (try simp only [decide_eq_true_eq, decide_eq_false_iff_not, Bool.not_eq_true', Bool.not_eq_false', Int.not_lt, Int.not_le, Bool.not_true, Bool.not_false, Int.toNat_natCast, tn1, tn2, tnn, bne_iff_ne, beq_iff_eq, beq_eq_false_iff_ne, ne_eq, Decidable.not_not] at h16)
           refine zv6 ?_
           refine AWp_cond rfl (fun h17 => ?_) (fun h17 => ?_)
           ·(try rw [h17]); (try simp only [decide_eq_true_eq, decide_eq_false_iff_not, Bool.not_eq_true', Bool.not_eq_false', Int.not_lt, Int.not_le, Bool.not_true, Bool.not_false, Int.toNat_natCast, tn1, tn2, tnn, bne_iff_ne, beq_iff_eq, beq_eq_false_iff_ne, ne_eq, Decidable.not_not] at h17)
            refine AWp_regL ?_
            refine zv3 ?_
            refine ⟨(), trivial, ⟨rfl, rfl, ?_, trivial⟩, rfl⟩
            unfold eSg; first | (rw [if_pos (by omega)]; rfl) | (rw [if_neg (by omega)]; rfl)
           ·(try rw [h17]); (try simp only [decide_eq_true_eq, decide_eq_false_iff_not, Bool.not_eq_true', Bool.not_eq_false', Int.not_lt, Int.not_le, Bool.not_true, Bool.not_false, Int.toNat_natCast, tn1, tn2, tnn, bne_iff_ne, beq_iff_eq, beq_eq_false_iff_ne, ne_eq, Decidable.not_not] at h17)
            refine AWp_skip ?_
            refine ⟨(), trivial, ⟨rfl, rfl, ?_, trivial⟩, rfl⟩
            unfold eSg; first | (rw [if_pos (by omega)]; rfl) | (rw [if_neg (by omega)]; rfl)
         ·rw [h15]; (try simp only [decide_eq_true_eq, decide_eq_false_iff_not, Bool.not_eq_true', Bool.not_eq_false', Int.not_lt, Int.not_le, Bool.not_true, Bool.not_false, Int.toNat_natCast, tn1, tn2, tnn, bne_iff_ne, beq_iff_eq, beq_eq_false_iff_ne, ne_eq, Decidable.not_not] at h15)
          refine zg10 ?_
          refine zg1 ?_
          refine zon ?_
          refine AWp_condF rfl ?_
          refine AWp_skip ?_
          refine ⟨(), trivial, ⟨rfl, rfl, ?_, trivial⟩, rfl⟩
          unfold eSg; first | (rw [if_pos (by omega)]; rfl) | (rw [if_neg (by omega)]; rfl)
        ·skip
         have hi3 := eSg_le (s := s) (a := j + 1) (by omega)
         have hr3 := runl_le s (eSg s (j + 1))
         refine zu2 ?_
         refine zt rfl (zc rfl (run_n s (eSg s (j + 1)) _ hs (by omega))) ?_
         refine zv1 ?_
         refine zw4 ?_
         refine zw2 ?_
         refine AWp_cond rfl (fun h18 => ?_) (fun h18 => ?_)
         ·(try rw [h18]); (try simp only [decide_eq_true_eq, decide_eq_false_iff_not, Bool.not_eq_true', Bool.not_eq_false', Int.not_lt, Int.not_le, Bool.not_true, Bool.not_false, Int.toNat_natCast, tn1, tn2, tnn, bne_iff_ne, beq_iff_eq, beq_eq_false_iff_ne, ne_eq, Decidable.not_not] at h18)
          refine zw3 ?_
          refine zrt ?_
          first | (have hE2 : rEnd s a = (eSg s (j + 1), false) := by rw [hE]; unfold ePow; rw [if_pos (by omega), if_pos (by omega)]); rw [hE2]; (refine ResQ_20 rfl rfl hcl (by simp [AV.lt, AV.ltL]) (Ret_of ?_)); congr 3; dsimp only; omega | (have hE2 : rEnd s a = (eSg s (j + 1) + runl s (eSg s (j + 1)), true) := by rw [hE]; unfold ePow; rw [if_pos (by omega), if_neg (by omega)]); rw [hE2]; exact ResQ_20 rfl rfl hcl (by simp [AV.lt, AV.ltL]) (Ret_of rfl) | (have hE2 : rEnd s a = (j, true) := by rw [hE]; unfold ePow; rw [if_neg (by omega)]); rw [hE2]; exact ResQ_20 rfl rfl hcl (by simp [AV.lt, AV.ltL]) (Ret_of rfl)
         ·(try rw [h18]); (try simp only [decide_eq_true_eq, decide_eq_false_iff_not, Bool.not_eq_true', Bool.not_eq_false', Int.not_lt, Int.not_le, Bool.not_true, Bool.not_false, Int.toNat_natCast, tn1, tn2, tnn, bne_iff_ne, beq_iff_eq, beq_eq_false_iff_ne, ne_eq, Decidable.not_not] at h18)
          refine AWp_skip ?_
          refine zw3 ?_
          refine zrt ?_
          first | (have hE2 : rEnd s a = (eSg s (j + 1), false) := by rw [hE]; unfold ePow; rw [if_pos (by omega), if_pos (by omega)]); rw [hE2]; (refine ResQ_20 rfl rfl hcl (by simp [AV.lt, AV.ltL]) (Ret_of ?_)); congr 3; dsimp only; omega | (have hE2 : rEnd s a = (eSg s (j + 1) + runl s (eSg s (j + 1)), true) := by rw [hE]; unfold ePow; rw [if_pos (by omega), if_neg (by omega)]); rw [hE2]; exact ResQ_20 rfl rfl hcl (by simp [AV.lt, AV.ltL]) (Ret_of rfl) | (have hE2 : rEnd s a = (j, true) := by rw [hE]; unfold ePow; rw [if_neg (by omega)]); rw [hE2]; exact ResQ_20 rfl rfl hcl (by simp [AV.lt, AV.ltL]) (Ret_of rfl)
       ·(try rw [h14]); (try simp only [decide_eq_true_eq, decide_eq_false_iff_not, Bool.not_eq_true', Bool.not_eq_false', Int.not_lt, Int.not_le, Bool.not_true, Bool.not_false, Int.toNat_natCast, tn1, tn2, tnn, bne_iff_ne, beq_iff_eq, beq_eq_false_iff_ne, ne_eq, Decidable.not_not] at h14)
        refine AWp_skip ?_
        refine zw3 ?_
        refine zrt ?_
        first | (have hE2 : rEnd s a = (eSg s (j + 1), false) := by rw [hE]; unfold ePow; rw [if_pos (by omega), if_pos (by omega)]); rw [hE2]; (refine ResQ_20 rfl rfl hcl (by simp [AV.lt, AV.ltL]) (Ret_of ?_)); congr 3; dsimp only; omega | (have hE2 : rEnd s a = (eSg s (j + 1) + runl s (eSg s (j + 1)), true) := by rw [hE]; unfold ePow; rw [if_pos (by omega), if_neg (by omega)]); rw [hE2]; exact ResQ_20 rfl rfl hcl (by simp [AV.lt, AV.ltL]) (Ret_of rfl) | (have hE2 : rEnd s a = (j, true) := by rw [hE]; unfold ePow; rw [if_neg (by omega)]); rw [hE2]; exact ResQ_20 rfl rfl hcl (by simp [AV.lt, AV.ltL]) (Ret_of rfl)
     ·rw [h8]; (try simp only [decide_eq_true_eq, decide_eq_false_iff_not, Bool.not_eq_true', Bool.not_eq_false', Int.not_lt, Int.not_le, Bool.not_true, Bool.not_false, Int.toNat_natCast, tn1, tn2, tnn, bne_iff_ne, beq_iff_eq, beq_eq_false_iff_ne, ne_eq, Decidable.not_not] at h8)
      refine zg10 ?_
      refine zg1 ?_
      refine zon ?_
      refine AWp_condF rfl ?_
      refine AWp_skip ?_
      refine zw3 ?_
      refine zrt ?_
      first | (have hE2 : rEnd s a = (eSg s (j + 1), false) := by rw [hE]; unfold ePow; rw [if_pos (by omega), if_pos (by omega)]); rw [hE2]; (refine ResQ_20 rfl rfl hcl (by simp [AV.lt, AV.ltL]) (Ret_of ?_)); congr 3; dsimp only; omega | (have hE2 : rEnd s a = (eSg s (j + 1) + runl s (eSg s (j + 1)), true) := by rw [hE]; unfold ePow; rw [if_pos (by omega), if_neg (by omega)]); rw [hE2]; exact ResQ_20 rfl rfl hcl (by simp [AV.lt, AV.ltL]) (Ret_of rfl) | (have hE2 : rEnd s a = (j, true) := by rw [hE]; unfold ePow; rw [if_neg (by omega)]); rw [hE2]; exact ResQ_20 rfl rfl hcl (by simp [AV.lt, AV.ltL]) (Ret_of rfl)
end Lg
set_option maxRecDepth 20000
set_option maxHeartbeats 4000000
namespace Lg
open Go Go.Proofs Go.RowKit
variable [GLay] 
theorem hex_c (s : ByteArray) (a : Nat) (σ : List AO) (hs : s.size ≤ 1000000) (ha : a ≤ 2000000) : ACalls Tryz.prog 142 [.str s, .int .i64 (a : Int)] σ (Ret (.tup [.int .i64 (rhex s a).1, .int .i64 (rhex s a).2]) σ) := by
 refine ACalls_body Tryz.func142 rfl Tryz.ntmps142 (res2 Tryz.results142) (Nat.le_of_ble_eq_true rfl) (fun hcl hal => ?_)
 refine zw2 ?_
 refine zw1 ?_
 refine AWp_seq ?_
 refine zw2 ?_
 refine AWp_block ?_
 -- loop 0 LIVE 0:param 1:param 4:assign 5:assign 6:assign 7:assign
 refine AWp_loop (ι := Nat × Int) (fun q => hexF s q.1 (a + 4) q.2 = rhex s a ∧ a ≤ q.1 ∧ 0 ≤ q.2 ∧ ((q.1 = a ∧ q.2 = 0) ∨ (q.1 = a + 1 ∧ q.2 < 16) ∨ (q.1 = a + 2 ∧ q.2 < 256) ∨ (q.1 = a + 3 ∧ q.2 < 4096) ∨ (q.1 = a + 4 ∧ q.2 < 65536))) (fun q => ⟨[], [(0, .str s), (1, .int .i64 (a : Int)), (6, .int .i64 q.2), (7, .int .i64 (q.1 : Int))]⟩) (fun q => σ) (fun q => a + 4 - q.1) ((a, 0)) (⟨rfl, Nat.le_refl _, Int.le_refl _, .inl ⟨rfl, rfl⟩⟩) ?_ rfl (fun q hq => ?_)
 ·exact ⟨rfl, rfl, rfl, rfl, rfl, trivial⟩
 obtain ⟨i, v⟩ := q
 obtain ⟨hq1, hq2, hq3, hq4⟩ := hq
 simp only at hq1 hq2 hq3 hq4 ⊢
 have hbl := bat_lt s i
 refine AWp_seq ?_
 refine zw4 ?_
 refine AWp_cond rfl (fun h1 => ?_) (fun h1 => ?_)
 ·(try rw [h1]); (try simp only [decide_eq_true_eq, decide_eq_false_iff_not, Bool.not_eq_true', Bool.not_eq_false', Int.not_lt, Int.not_le, Bool.not_true, Bool.not_false, Int.toNat_natCast, tn1, tn2, tnn, bne_iff_ne, beq_iff_eq, beq_eq_false_iff_ne, ne_eq, Decidable.not_not] at h1)
  refine AWp_skip ?_
  refine AWp_seq ?_
  refine AWp_block ?_
  refine AWp_seq ?_
  refine zw4 ?_
  refine AWp_cond rfl (fun h2 => ?_) (fun h2 => ?_)
  ·(try rw [h2]); (try simp only [decide_eq_true_eq, decide_eq_false_iff_not, Bool.not_eq_true', Bool.not_eq_false', Int.not_lt, Int.not_le, Bool.not_true, Bool.not_false, Int.toNat_natCast, tn1, tn2, tnn, bne_iff_ne, beq_iff_eq, beq_eq_false_iff_ne, ne_eq, Decidable.not_not] at h2)
   refine zw3 ?_
   refine zrt ?_
   first | (have hE : rhex s a = (0, (i : Int)) := by rw [← hq1, hexF.eq_1 s i, if_pos (by omega)]; first | (rw [if_pos (by omega)]; done) | (rw [if_neg (by omega), if_pos (by omega)]; done)); rw [hE]; exact ResQ_20 rfl rfl hcl (by simp [AV.lt, AV.ltL]) (Ret_of rfl) | (have hE : rhex s a = (v, -1) := by rw [← hq1, hexF.eq_1 s i, if_neg (by omega)]); rw [hE]; exact ResQ_20 rfl rfl hcl (by simp [AV.lt, AV.ltL]) (Ret_of rfl)
  ·(try rw [h2]); (try simp only [decide_eq_true_eq, decide_eq_false_iff_not, Bool.not_eq_true', Bool.not_eq_false', Int.not_lt, Int.not_le, Bool.not_true, Bool.not_false, Int.toNat_natCast, tn1, tn2, tnn, bne_iff_ne, beq_iff_eq, beq_eq_false_iff_ne, ne_eq, Decidable.not_not] at h2)
   refine AWp_skip ?_
   refine zu3 ?_
   simp only [Int.toNat_natCast]
   refine zv2 ?_
   refine zw1 ?_
   refine AWp_join (ι := Unit) (fun b => True) (fun b => ⟨[], [(0, .str s), (1, .int .i64 (a : Int)), (6, .int .i64 v), (7, .int .i64 (i : Int)), (8, .int .i64 ((bat s i).toNat : Int)), (9, .int .i64 (hd1 (bat s i).toNat))]⟩) (fun b => σ) ?_ (fun b hj => ?_)
   ·skip
    refine zu3 ?_
    refine zsp 28 rfl (fun h3 => ?_) fun h3 => ?_
    ·rw [h3]; (try simp only [decide_eq_true_eq, decide_eq_false_iff_not, Bool.not_eq_true', Bool.not_eq_false', Int.not_lt, Int.not_le, Bool.not_true, Bool.not_false, Int.toNat_natCast, tn1, tn2, tnn, bne_iff_ne, beq_iff_eq, beq_eq_false_iff_ne, ne_eq, Decidable.not_not] at h3)
     refine zv3 ?_
     refine AWp_cond rfl (fun h4 => ?_) (fun h4 => ?_)
     ·(try rw [h4]); (try simp only [decide_eq_true_eq, decide_eq_false_iff_not, Bool.not_eq_true', Bool.not_eq_false', Int.not_lt, Int.not_le, Bool.not_true, Bool.not_false, Int.toNat_natCast, tn1, tn2, tnn, bne_iff_ne, beq_iff_eq, beq_eq_false_iff_ne, ne_eq, Decidable.not_not] at h4)
      refine AWp_regL ?_
      refine zv3 ?_
      refine ⟨(), trivial, ⟨rfl, rfl, rfl, rfl, rfl, rfl, ?_, trivial⟩, rfl⟩
      unfold hd1; first | (rw [if_pos (by omega)]; rfl) | (rw [if_neg (by omega)]; rfl)
     ·(try rw [h4]); (try simp only [decide_eq_true_eq, decide_eq_false_iff_not, Bool.not_eq_true', Bool.not_eq_false', Int.not_lt, Int.not_le, Bool.not_true, Bool.not_false, Int.toNat_natCast, tn1, tn2, tnn, bne_iff_ne, beq_iff_eq, beq_eq_false_iff_ne, ne_eq, Decidable.not_not] at h4)
      refine AWp_skip ?_
      refine ⟨(), trivial, ⟨rfl, rfl, rfl, rfl, rfl, rfl, ?_, trivial⟩, rfl⟩
      unfold hd1; first | (rw [if_pos (by omega)]; rfl) | (rw [if_neg (by omega)]; rfl)
    ·rw [h3]; (try simp only [decide_eq_true_eq, decide_eq_false_iff_not, Bool.not_eq_true', Bool.not_eq_false', Int.not_lt, Int.not_le, Bool.not_true, Bool.not_false, Int.toNat_natCast, tn1, tn2, tnn, bne_iff_ne, beq_iff_eq, beq_eq_false_iff_ne, ne_eq, Decidable.not_not] at h3)
     refine zv3 ?_
     refine AWp_condF rfl ?_
     refine AWp_skip ?_
     refine ⟨(), trivial, ⟨rfl, rfl, rfl, rfl, rfl, rfl, ?_, trivial⟩, rfl⟩
     unfold hd1; first | (rw [if_pos (by omega)]; rfl) | (rw [if_neg (by omega)]; rfl)
   ·skip
    refine AWp_join (ι := Unit) (fun b => True) (fun b => ⟨[], [(0, .str s), (1, .int .i64 (a : Int)), (6, .int .i64 v), (7, .int .i64 (i : Int)), (8, .int .i64 ((bat s i).toNat : Int)), (9, .int .i64 (hd2 (bat s i).toNat))]⟩) (fun b => σ) ?_ (fun b hj => ?_)
    ·skip
     refine zu3 ?_
     refine zsp 36 rfl (fun h5 => ?_) fun h5 => ?_
     ·rw [h5]; (try simp only [decide_eq_true_eq, decide_eq_false_iff_not, Bool.not_eq_true', Bool.not_eq_false', Int.not_lt, Int.not_le, Bool.not_true, Bool.not_false, Int.toNat_natCast, tn1, tn2, tnn, bne_iff_ne, beq_iff_eq, beq_eq_false_iff_ne, ne_eq, Decidable.not_not] at h5)
      refine zv3 ?_
      refine AWp_cond rfl (fun h6 => ?_) (fun h6 => ?_)
      ·(try rw [h6]); (try simp only [decide_eq_true_eq, decide_eq_false_iff_not, Bool.not_eq_true', Bool.not_eq_false', Int.not_lt, Int.not_le, Bool.not_true, Bool.not_false, Int.toNat_natCast, tn1, tn2, tnn, bne_iff_ne, beq_iff_eq, beq_eq_false_iff_ne, ne_eq, Decidable.not_not] at h6)
       refine AWp_regL ?_
       refine zv3 ?_
       refine ⟨(), trivial, ⟨rfl, rfl, rfl, rfl, rfl, rfl, ?_, trivial⟩, rfl⟩
       unfold hd2; first | (rw [if_pos (by omega)]; rfl) | (rw [if_neg (by omega)]; rfl)
      ·(try rw [h6]); (try simp only [decide_eq_true_eq, decide_eq_false_iff_not, Bool.not_eq_true', Bool.not_eq_false', Int.not_lt, Int.not_le, Bool.not_true, Bool.not_false, Int.toNat_natCast, tn1, tn2, tnn, bne_iff_ne, beq_iff_eq, beq_eq_false_iff_ne, ne_eq, Decidable.not_not] at h6)
       refine AWp_skip ?_
       refine ⟨(), trivial, ⟨rfl, rfl, rfl, rfl, rfl, rfl, ?_, trivial⟩, rfl⟩
       unfold hd2; first | (rw [if_pos (by omega)]; rfl) | (rw [if_neg (by omega)]; rfl)
     ·rw [h5]; (try simp only [decide_eq_true_eq, decide_eq_false_iff_not, Bool.not_eq_true', Bool.not_eq_false', Int.not_lt, Int.not_le, Bool.not_true, Bool.not_false, Int.toNat_natCast, tn1, tn2, tnn, bne_iff_ne, beq_iff_eq, beq_eq_false_iff_ne, ne_eq, Decidable.not_not] at h5)
      refine zv3 ?_
      refine AWp_condF rfl ?_
      refine AWp_skip ?_
      refine ⟨(), trivial, ⟨rfl, rfl, rfl, rfl, rfl, rfl, ?_, trivial⟩, rfl⟩
      unfold hd2; first | (rw [if_pos (by omega)]; rfl) | (rw [if_neg (by omega)]; rfl)
    ·skip
     refine AWp_join (ι := Unit) (fun b => True) (fun b => ⟨[], [(0, .str s), (1, .int .i64 (a : Int)), (6, .int .i64 v), (7, .int .i64 (i : Int)), (8, .int .i64 ((bat s i).toNat : Int)), (9, .int .i64 (hexd (bat s i).toNat))]⟩) (fun b => σ) ?_ (fun b hj => ?_)
     ·skip
      refine zu3 ?_
      refine zsp 44 rfl (fun h7 => ?_) fun h7 => ?_
      ·rw [h7]; (try simp only [decide_eq_true_eq, decide_eq_false_iff_not, Bool.not_eq_true', Bool.not_eq_false', Int.not_lt, Int.not_le, Bool.not_true, Bool.not_false, Int.toNat_natCast, tn1, tn2, tnn, bne_iff_ne, beq_iff_eq, beq_eq_false_iff_ne, ne_eq, Decidable.not_not] at h7)
       refine zv3 ?_
       refine AWp_cond rfl (fun h8 => ?_) (fun h8 => ?_)
       ·(try rw [h8]); (try simp only [decide_eq_true_eq, decide_eq_false_iff_not, Bool.not_eq_true', Bool.not_eq_false', Int.not_lt, Int.not_le, Bool.not_true, Bool.not_false, Int.toNat_natCast, tn1, tn2, tnn, bne_iff_ne, beq_iff_eq, beq_eq_false_iff_ne, ne_eq, Decidable.not_not] at h8)
        refine AWp_regL ?_
        refine zv3 ?_
        refine ⟨(), trivial, ⟨rfl, rfl, rfl, rfl, rfl, rfl, ?_, trivial⟩, rfl⟩
        unfold hexd; first | (rw [if_pos (by omega)]; rfl) | (rw [if_neg (by omega)]; rfl)
       ·(try rw [h8]); (try simp only [decide_eq_true_eq, decide_eq_false_iff_not, Bool.not_eq_true', Bool.not_eq_false', Int.not_lt, Int.not_le, Bool.not_true, Bool.not_false, Int.toNat_natCast, tn1, tn2, tnn, bne_iff_ne, beq_iff_eq, beq_eq_false_iff_ne, ne_eq, Decidable.not_not] at h8)
        refine AWp_skip ?_
        refine ⟨(), trivial, ⟨rfl, rfl, rfl, rfl, rfl, rfl, ?_, trivial⟩, rfl⟩
        unfold hexd; first | (rw [if_pos (by omega)]; rfl) | (rw [if_neg (by omega)]; rfl)
      ·rw [h7]; (try simp only [decide_eq_true_eq, decide_eq_false_iff_not, Bool.not_eq_true', Bool.not_eq_false', Int.not_lt, Int.not_le, Bool.not_true, Bool.not_false, Int.toNat_natCast, tn1, tn2, tnn, bne_iff_ne, beq_iff_eq, beq_eq_false_iff_ne, ne_eq, Decidable.not_not] at h7)
       refine zv3 ?_
       refine AWp_condF rfl ?_
       refine AWp_skip ?_
       refine ⟨(), trivial, ⟨rfl, rfl, rfl, rfl, rfl, rfl, ?_, trivial⟩, rfl⟩
       unfold hexd; first | (rw [if_pos (by omega)]; rfl) | (rw [if_neg (by omega)]; rfl)
     ·skip
      have hdd := hexd_lt (bat s i).toNat
      refine AWp_seq ?_
      refine zw2 ?_
      refine AWp_cond rfl (fun h9 => ?_) (fun h9 => ?_)
      ·(try rw [h9]); (try simp only [decide_eq_true_eq, decide_eq_false_iff_not, Bool.not_eq_true', Bool.not_eq_false', Int.not_lt, Int.not_le, Bool.not_true, Bool.not_false, Int.toNat_natCast, tn1, tn2, tnn, bne_iff_ne, beq_iff_eq, beq_eq_false_iff_ne, ne_eq, Decidable.not_not] at h9)
       refine zw3 ?_
       refine zrt ?_
       first | (have hE : rhex s a = (0, (i : Int)) := by rw [← hq1, hexF.eq_1 s i, if_pos (by omega)]; first | (rw [if_pos (by omega)]; done) | (rw [if_neg (by omega), if_pos (by omega)]; done)); rw [hE]; exact ResQ_20 rfl rfl hcl (by simp [AV.lt, AV.ltL]) (Ret_of rfl) | (have hE : rhex s a = (v, -1) := by rw [← hq1, hexF.eq_1 s i, if_neg (by omega)]); rw [hE]; exact ResQ_20 rfl rfl hcl (by simp [AV.lt, AV.ltL]) (Ret_of rfl)
      ·(try rw [h9]); (try simp only [decide_eq_true_eq, decide_eq_false_iff_not, Bool.not_eq_true', Bool.not_eq_false', Int.not_lt, Int.not_le, Bool.not_true, Bool.not_false, Int.toNat_natCast, tn1, tn2, tnn, bne_iff_ne, beq_iff_eq, beq_eq_false_iff_ne, ne_eq, Decidable.not_not] at h9)
       refine AWp_skip ?_
       refine AWp_regL ?_
       refine zv5 ?_
       refine AWp_regL ?_
       refine zv3 ?_
       refine ⟨(i + 1, 16 * v + hexd (bat s i).toNat), σ.length, ⟨?_, ?_, ?_, ?_⟩, ?_, Nat.le_refl _, ⟨rfl, rfl, rfl, rfl, rfl, trivial⟩, hcl, ?_, List.take_length⟩
       ·rw [← hq1, hexF.eq_1 s i, if_pos (by omega), if_neg (by omega), if_neg (by omega)]
       ·simp only; omega
       ·simp only; omega
       ·simp only; omega
       ·simp only; omega
       ·simp [ltE, AV.lt]
 ·(try rw [h1]); (try simp only [decide_eq_true_eq, decide_eq_false_iff_not, Bool.not_eq_true', Bool.not_eq_false', Int.not_lt, Int.not_le, Bool.not_true, Bool.not_false, Int.toNat_natCast, tn1, tn2, tnn, bne_iff_ne, beq_iff_eq, beq_eq_false_iff_ne, ne_eq, Decidable.not_not] at h1)
  refine AWp_exit ?_
  refine zw3 ?_
  refine zrt ?_
  first | (have hE : rhex s a = (0, (i : Int)) := by rw [← hq1, hexF.eq_1 s i, if_pos (by omega)]; first | (rw [if_pos (by omega)]; done) | (rw [if_neg (by omega), if_pos (by omega)]; done)); rw [hE]; exact ResQ_20 rfl rfl hcl (by simp [AV.lt, AV.ltL]) (Ret_of rfl) | (have hE : rhex s a = (v, -1) := by rw [← hq1, hexF.eq_1 s i, if_neg (by omega)]); rw [hE]; exact ResQ_20 rfl rfl hcl (by simp [AV.lt, AV.ltL]) (Ret_of rfl)

theorem low_c (s : ByteArray) (a : Nat) (σ : List AO) (hs : s.size ≤ 1000000) (ha : a ≤ 2000000) : ACalls Tryz.prog 143 [.str s, .int .i64 (a : Int)] σ (Ret (.int .i64 (rlow s a)) σ) := by
 refine ACalls_body Tryz.func143 rfl Tryz.ntmps143 (res1 Tryz.results143) (Nat.le_of_ble_eq_true rfl) (fun hcl hal => ?_)
 have hh := rhex_ok s (a + 2)
 refine zw1 ?_
 refine AWp_seq ?_
 refine zw5 ?_
 refine AWp_cond rfl (fun h1 => ?_) (fun h1 => ?_)
 ·(try rw [h1]); (try simp only [decide_eq_true_eq, decide_eq_false_iff_not, Bool.not_eq_true', Bool.not_eq_false', Int.not_lt, Int.not_le, Bool.not_true, Bool.not_false, Int.toNat_natCast, tn1, tn2, tnn, bne_iff_ne, beq_iff_eq, beq_eq_false_iff_ne, ne_eq, Decidable.not_not] at h1)
  refine zw1 ?_
  refine zrt ?_
  refine ResQ_10 rfl hcl (by simp [AV.lt, AV.ltL]) (Ret_of ?_)
  congr 1; unfold rlow; first | (rw [if_pos (by omega)]; done) | (rw [if_neg (by omega), if_pos (by omega)]; done) | (rw [if_neg (by omega), if_neg (by omega), if_pos (by omega)]; done) | (rw [if_neg (by omega), if_neg (by omega), if_neg (by omega)]; done)
 ·(try rw [h1]); (try simp only [decide_eq_true_eq, decide_eq_false_iff_not, Bool.not_eq_true', Bool.not_eq_false', Int.not_lt, Int.not_le, Bool.not_true, Bool.not_false, Int.toNat_natCast, tn1, tn2, tnn, bne_iff_ne, beq_iff_eq, beq_eq_false_iff_ne, ne_eq, Decidable.not_not] at h1)
  refine AWp_skip ?_
  refine AWp_seq ?_
  refine zu5 ?_
  refine zsp 16 rfl (fun h2 => ?_) fun h2 => ?_
  ·rw [h2]; (try simp only [decide_eq_true_eq, decide_eq_false_iff_not, Bool.not_eq_true', Bool.not_eq_false', Int.not_lt, Int.not_le, Bool.not_true, Bool.not_false, Int.toNat_natCast, tn1, tn2, tnn, bne_iff_ne, beq_iff_eq, beq_eq_false_iff_ne, ne_eq, Decidable.not_not] at h2)
   refine zv6 ?_
   refine AWp_condT rfl ?_
   refine zw1 ?_
   refine zrt ?_
   refine ResQ_10 rfl hcl (by simp [AV.lt, AV.ltL]) (Ret_of ?_)
   congr 1; unfold rlow; first | (rw [if_pos (by omega)]; done) | (rw [if_neg (by omega), if_pos (by omega)]; done) | (rw [if_neg (by omega), if_neg (by omega), if_pos (by omega)]; done) | (rw [if_neg (by omega), if_neg (by omega), if_neg (by omega)]; done)
  ·rw [h2]; (try simp only [decide_eq_true_eq, decide_eq_false_iff_not, Bool.not_eq_true', Bool.not_eq_false', Int.not_lt, Int.not_le, Bool.not_true, Bool.not_false, Int.toNat_natCast, tn1, tn2, tnn, bne_iff_ne, beq_iff_eq, beq_eq_false_iff_ne, ne_eq, Decidable.not_not] at h2)
   refine zv6 ?_
   refine AWp_cond rfl (fun h3 => ?_) (fun h3 => ?_)
   ·(try rw [h3]); (try simp only [decide_eq_true_eq, decide_eq_false_iff_not, Bool.not_eq_true', Bool.not_eq_false', Int.not_lt, Int.not_le, Bool.not_true, Bool.not_false, Int.toNat_natCast, tn1, tn2, tnn, bne_iff_ne, beq_iff_eq, beq_eq_false_iff_ne, ne_eq, Decidable.not_not] at h3)
    refine zw1 ?_
    refine zrt ?_
    refine ResQ_10 rfl hcl (by simp [AV.lt, AV.ltL]) (Ret_of ?_)
    congr 1; unfold rlow; first | (rw [if_pos (by omega)]; done) | (rw [if_neg (by omega), if_pos (by omega)]; done) | (rw [if_neg (by omega), if_neg (by omega), if_pos (by omega)]; done) | (rw [if_neg (by omega), if_neg (by omega), if_neg (by omega)]; done)
   ·(try rw [h3]); (try simp only [decide_eq_true_eq, decide_eq_false_iff_not, Bool.not_eq_true', Bool.not_eq_false', Int.not_lt, Int.not_le, Bool.not_true, Bool.not_false, Int.toNat_natCast, tn1, tn2, tnn, bne_iff_ne, beq_iff_eq, beq_eq_false_iff_ne, ne_eq, Decidable.not_not] at h3)
    refine AWp_skip ?_
    refine zu3 ?_
    refine zt rfl (zc rfl (hex_c s (a + 2) _ hs (by omega))) ?_
    refine zv5 ?_
    refine AWp_seq ?_
    refine zu3 ?_
    refine zsp 32 rfl (fun h4 => ?_) fun h4 => ?_
    ·rw [h4]; (try simp only [decide_eq_true_eq, decide_eq_false_iff_not, Bool.not_eq_true', Bool.not_eq_false', Int.not_lt, Int.not_le, Bool.not_true, Bool.not_false, Int.toNat_natCast, tn1, tn2, tnn, bne_iff_ne, beq_iff_eq, beq_eq_false_iff_ne, ne_eq, Decidable.not_not] at h4)
     refine zv7 ?_
     refine AWp_condT rfl ?_
     refine zw1 ?_
     refine zrt ?_
     refine ResQ_10 rfl hcl (by simp [AV.lt, AV.ltL]) (Ret_of ?_)
     congr 1; unfold rlow; first | (rw [if_pos (by omega)]; done) | (rw [if_neg (by omega), if_pos (by omega)]; done) | (rw [if_neg (by omega), if_neg (by omega), if_pos (by omega)]; done) | (rw [if_neg (by omega), if_neg (by omega), if_neg (by omega)]; done)
    ·rw [h4]; (try simp only [decide_eq_true_eq, decide_eq_false_iff_not, Bool.not_eq_true', Bool.not_eq_false', Int.not_lt, Int.not_le, Bool.not_true, Bool.not_false, Int.toNat_natCast, tn1, tn2, tnn, bne_iff_ne, beq_iff_eq, beq_eq_false_iff_ne, ne_eq, Decidable.not_not] at h4)
     refine zg4 ?_
     refine zsp 36 rfl (fun h5 => ?_) fun h5 => ?_
     ·rw [h5]; (try simp only [decide_eq_true_eq, decide_eq_false_iff_not, Bool.not_eq_true', Bool.not_eq_false', Int.not_lt, Int.not_le, Bool.not_true, Bool.not_false, Int.toNat_natCast, tn1, tn2, tnn, bne_iff_ne, beq_iff_eq, beq_eq_false_iff_ne, ne_eq, Decidable.not_not] at h5)
      refine zv3 ?_
      refine AWp_condT rfl ?_
      refine zw1 ?_
      refine zrt ?_
      refine ResQ_10 rfl hcl (by simp [AV.lt, AV.ltL]) (Ret_of ?_)
      congr 1; unfold rlow; first | (rw [if_pos (by omega)]; done) | (rw [if_neg (by omega), if_pos (by omega)]; done) | (rw [if_neg (by omega), if_neg (by omega), if_pos (by omega)]; done) | (rw [if_neg (by omega), if_neg (by omega), if_neg (by omega)]; done)
     ·rw [h5]; (try simp only [decide_eq_true_eq, decide_eq_false_iff_not, Bool.not_eq_true', Bool.not_eq_false', Int.not_lt, Int.not_le, Bool.not_true, Bool.not_false, Int.toNat_natCast, tn1, tn2, tnn, bne_iff_ne, beq_iff_eq, beq_eq_false_iff_ne, ne_eq, Decidable.not_not] at h5)
      refine zv3 ?_
      refine AWp_cond rfl (fun h6 => ?_) (fun h6 => ?_)
      ·(try rw [h6]); (try simp only [decide_eq_true_eq, decide_eq_false_iff_not, Bool.not_eq_true', Bool.not_eq_false', Int.not_lt, Int.not_le, Bool.not_true, Bool.not_false, Int.toNat_natCast, tn1, tn2, tnn, bne_iff_ne, beq_iff_eq, beq_eq_false_iff_ne, ne_eq, Decidable.not_not] at h6)
       refine zw1 ?_
       refine zrt ?_
       refine ResQ_10 rfl hcl (by simp [AV.lt, AV.ltL]) (Ret_of ?_)
       congr 1; unfold rlow; first | (rw [if_pos (by omega)]; done) | (rw [if_neg (by omega), if_pos (by omega)]; done) | (rw [if_neg (by omega), if_neg (by omega), if_pos (by omega)]; done) | (rw [if_neg (by omega), if_neg (by omega), if_neg (by omega)]; done)
      ·(try rw [h6]); (try simp only [decide_eq_true_eq, decide_eq_false_iff_not, Bool.not_eq_true', Bool.not_eq_false', Int.not_lt, Int.not_le, Bool.not_true, Bool.not_false, Int.toNat_natCast, tn1, tn2, tnn, bne_iff_ne, beq_iff_eq, beq_eq_false_iff_ne, ne_eq, Decidable.not_not] at h6)
       refine AWp_skip ?_
       refine zw2 ?_
       refine zrt ?_
       refine ResQ_10 rfl hcl (by simp [AV.lt, AV.ltL]) (Ret_of ?_)
       congr 1; unfold rlow; first | (rw [if_pos (by omega)]; done) | (rw [if_neg (by omega), if_pos (by omega)]; done) | (rw [if_neg (by omega), if_neg (by omega), if_pos (by omega)]; done) | (rw [if_neg (by omega), if_neg (by omega), if_neg (by omega)]; done)

theorem char_c (v : Int) (σ : List AO) (h0 : 0 ≤ v) (h1 : v < 1114112) : ACalls Tryz.prog 144 [.int .i64 v] σ (Ret (.str (rchar v)) σ) := by
 refine ACalls_body Tryz.func144 rfl Tryz.ntmps144 (res1 Tryz.results144) (Nat.le_of_ble_eq_true rfl) (fun hcl hal => ?_)
 refine zw1 ?_
 refine AWp_seq ?_
 refine zw2 ?_
 refine AWp_cond rfl (fun h1 => ?_) (fun h1 => ?_)
 ·(try rw [h1]); replace h1 := zcl h1
  refine zu2 ?_
  refine zt rfl (op_buildSlice [[_]] rfl Tryz.underlying146 Tryz.sizeOf5 Tryz.zeroValue5 rfl (by decide) (by decide) rfl rfl rfl rfl rfl) ?_
  refine zt rfl (op_bytesStr (b := _) (m := 1) rfl Tryz.underlying146 Tryz.underlying5 Tryz.underlying9 (bs1 ⟨by omega, by omega⟩) rfl rfl) ?_
  refine zv1 ?_
  refine zrt ?_
  refine ResQ_10 rfl hcl (by simp [AV.lt, AV.ltL]) (Ret_of ?_)
  congr 1; unfold rchar; first | (rw [if_pos (by omega)]; done) | (rw [if_neg (by omega), if_pos (by omega)]; done) | (rw [if_neg (by omega), if_neg (by omega), if_pos (by omega)]; done) | (rw [if_neg (by omega), if_neg (by omega), if_neg (by omega)]; done)
 ·(try rw [h1]); replace h1 := zcl h1
  refine AWp_skip ?_
  refine AWp_seq ?_
  refine zw2 ?_
  refine AWp_cond rfl (fun h2 => ?_) (fun h2 => ?_)
  ·(try rw [h2]); replace h2 := zcl h2
   refine zu1 ?_
   refine zt rfl (op_quo64 rfl rfl rfl (by omega) (by omega) (by omega)) ?_
   refine zg3 ?_
   refine zt rfl (op_rem64 rfl rfl rfl (by omega) (by omega)) ?_
   refine zg2 ?_
   refine zt rfl (op_buildSlice [[_], [_]] rfl Tryz.underlying146 Tryz.sizeOf5 Tryz.zeroValue5 rfl (by decide) (by decide) rfl rfl rfl rfl rfl) ?_
   refine zt rfl (op_bytesStr (b := _) (m := 2) rfl Tryz.underlying146 Tryz.underlying5 Tryz.underlying9 (bs2 ⟨by omega, by omega⟩ ⟨by omega, by omega⟩) rfl rfl) ?_
   refine zv1 ?_
   refine zrt ?_
   refine ResQ_10 rfl hcl (by simp [AV.lt, AV.ltL]) (Ret_of ?_)
   congr 1; unfold rchar; first | (rw [if_pos (by omega)]; done) | (rw [if_neg (by omega), if_pos (by omega)]; done) | (rw [if_neg (by omega), if_neg (by omega), if_pos (by omega)]; done) | (rw [if_neg (by omega), if_neg (by omega), if_neg (by omega)]; done)
  ·(try rw [h2]); replace h2 := zcl h2
   refine AWp_skip ?_
   refine AWp_seq ?_
   refine zw2 ?_
   refine AWp_cond rfl (fun h3 => ?_) (fun h3 => ?_)
   ·(try rw [h3]); replace h3 := zcl h3
    refine zu1 ?_
    refine zt rfl (op_quo64 rfl rfl rfl (by omega) (by omega) (by omega)) ?_
    refine zg3 ?_
    refine zt rfl (op_quo64 rfl rfl rfl (by omega) (by omega) (by omega)) ?_
    refine zt rfl (op_rem64 rfl rfl rfl (by omega) (by omega)) ?_
    refine zg3 ?_
    refine zt rfl (op_rem64 rfl rfl rfl (by omega) (by omega)) ?_
    refine zg2 ?_
    refine zt rfl (op_buildSlice [[_], [_], [_]] rfl Tryz.underlying146 Tryz.sizeOf5 Tryz.zeroValue5 rfl (by decide) (by decide) rfl rfl rfl rfl rfl) ?_
    refine zt rfl (op_bytesStr (b := _) (m := 3) rfl Tryz.underlying146 Tryz.underlying5 Tryz.underlying9 (bs3 ⟨by omega, by omega⟩ ⟨by omega, by omega⟩ ⟨by omega, by omega⟩) rfl rfl) ?_
    refine zv1 ?_
    refine zrt ?_
    refine ResQ_10 rfl hcl (by simp [AV.lt, AV.ltL]) (Ret_of ?_)
    congr 1; unfold rchar; first | (rw [if_pos (by omega)]; done) | (rw [if_neg (by omega), if_pos (by omega)]; done) | (rw [if_neg (by omega), if_neg (by omega), if_pos (by omega)]; done) | (rw [if_neg (by omega), if_neg (by omega), if_neg (by omega)]; done)
   ·(try rw [h3]); replace h3 := zcl h3
    refine AWp_skip ?_
    refine zu1 ?_
    refine zt rfl (op_quo64 rfl rfl rfl (by omega) (by omega) (by omega)) ?_
    refine zg3 ?_
    refine zt rfl (op_quo64 rfl rfl rfl (by omega) (by omega) (by omega)) ?_
    refine zt rfl (op_rem64 rfl rfl rfl (by omega) (by omega)) ?_
    refine zg3 ?_
    refine zt rfl (op_quo64 rfl rfl rfl (by omega) (by omega) (by omega)) ?_
    refine zt rfl (op_rem64 rfl rfl rfl (by omega) (by omega)) ?_
    refine zg3 ?_
    refine zt rfl (op_rem64 rfl rfl rfl (by omega) (by omega)) ?_
    refine zg2 ?_
    refine zt rfl (op_buildSlice [[_], [_], [_], [_]] rfl Tryz.underlying146 Tryz.sizeOf5 Tryz.zeroValue5 rfl (by decide) (by decide) rfl rfl rfl rfl rfl) ?_
    refine zt rfl (op_bytesStr (b := _) (m := 4) rfl Tryz.underlying146 Tryz.underlying5 Tryz.underlying9 (bs4 ⟨by omega, by omega⟩ ⟨by omega, by omega⟩ ⟨by omega, by omega⟩ ⟨by omega, by omega⟩) rfl rfl) ?_
    refine zv1 ?_
    refine zrt ?_
    refine ResQ_10 rfl hcl (by simp [AV.lt, AV.ltL]) (Ret_of ?_)
    congr 1; unfold rchar; first | (rw [if_pos (by omega)]; done) | (rw [if_neg (by omega), if_pos (by omega)]; done) | (rw [if_neg (by omega), if_neg (by omega), if_pos (by omega)]; done) | (rw [if_neg (by omega), if_neg (by omega), if_neg (by omega)]; done)
end Lg
set_option maxRecDepth 20000
set_option maxHeartbeats 4000000
namespace Lg
open Go Go.Proofs Go.RowKit
variable [GLay] 
theorem utf8_c (s : ByteArray) (a : Int) (σ : List AO) (hs : s.size ≤ 140737488355328) (h0 : 0 ≤ a) (ha : a < s.size) : ACalls Tryz.prog 69 [.str s, .int .i64 a] σ (Ret (.int .i64 (u8 s a.toNat : Int)) σ) := by
 refine ACalls_body Tryz.func69 rfl Tryz.ntmps69 (res1 Tryz.results69) (Nat.le_of_ble_eq_true rfl) (fun hcl hal => ?_)
 have c0 := bat_lt s a.toNat
 have c1 := bat_lt s (a.toNat + 1)
 have c2 := bat_lt s (a.toNat + 2)
 have c3 := bat_lt s (a.toNat + 3)
 refine zw1 ?_
 refine zw5 ?_
 refine AWp_seq ?_
 refine zw2 ?_
 refine AWp_cond rfl (fun h1 => ?_) (fun h1 => ?_)
 ·(try rw [h1]); replace h1 := zcl h1
  refine zw1 ?_
  refine zrt ?_
  refine ResQ_10 rfl hcl trivial (Ret_of ?_)
  congr 1
  unfold u8
  first | rw [u8N_1 (by omega)] | rw [u8N_2 (by omega) (by omega)] | rw [u8N_3 (by omega) (by omega) rfl] | rw [u8N_4 (by omega) (by omega) rfl] | rw [u8N_0 (by omega) (by omega)]
  all_goals (try split) <;> omega
 ·(try rw [h1]); replace h1 := zcl h1
  refine AWp_skip ?_
  refine zw1 ?_
  refine zw1 ?_
  refine zw1 ?_
  refine AWp_seq ?_
  refine zu3 ?_
  refine zsp 19 rfl (fun h2 => ?_) fun h2 => ?_
  ·rw [h2]; replace h2 := zcl h2
   refine zv3 ?_
   refine AWp_cond rfl (fun h3 => ?_) (fun h3 => ?_)
   ·(try rw [h3]); replace h3 := zcl h3
    refine zw1 ?_
    refine zw1 ?_
    refine AWp_regL ?_
    refine zv3 ?_
    refine AWp_seq ?_
    refine zw6 ?_
    refine AWp_cond rfl (fun h4 => ?_) (fun h4 => ?_)
    ·(try rw [h4]); replace h4 := zcl h4
     refine zw1 ?_
     refine zrt ?_
     refine ResQ_10 rfl hcl trivial (Ret_of ?_)
     congr 1
     unfold u8
     first | rw [u8N_1 (by omega)] | rw [u8N_2 (by omega) (by omega)] | rw [u8N_3 (by omega) (by omega) rfl] | rw [u8N_4 (by omega) (by omega) rfl] | rw [u8N_0 (by omega) (by omega)]
     all_goals (try split) <;> omega
    ·(try rw [h4]); replace h4 := zcl h4
     refine AWp_skip ?_
     refine AWp_seq ?_
     refine zw1 ?_
     refine AWp_block ?_
     -- loop 0 LIVE 0:param 1:param 4:assign 6:assign 7:assign 8:assign 9:assign
     refine AWp_loop (ι := Nat × Int) (fun p => (p.1 = 1 ∧ p.2 = ((bat s a.toNat).toNat : Int) - 192) ∨ (p.1 = 2 ∧ 128 ≤ ((bat s (a.toNat + 1)).toNat : Int) ∧ ((bat s (a.toNat + 1)).toNat : Int) < 192 ∧ p.2 = (64 * (((bat s a.toNat).toNat : Int) - 192) + (((bat s (a.toNat + 1)).toNat : Int) - 128)))) (fun p => ⟨[], [(0, .str s), (1, .int .i64 a), (6, .int .i64 2), (7, .int .i64 128), (8, .int .i64 p.2), (9, .int .i64 (p.1 : Int))]⟩) (fun p => σ) (fun p => 2 - p.1) ((1, ((bat s a.toNat).toNat : Int) - 192)) (.inl ⟨rfl, rfl⟩) ?_ rfl (fun p hp => ?_)
     ·exact ⟨rfl, rfl, rfl, rfl, rfl, rfl, rfl, trivial⟩
     obtain ⟨i, v⟩ := p
     simp only at hp ⊢
     have ci := bat_lt s (a + (i : Int)).toNat
     have k1 : i = 1 → (bat s (a + (i : Int)).toNat).toNat = (bat s (a.toNat + 1)).toNat := fun h => by rw [h]; congr 2; omega
     have k2 : i = 2 → (bat s (a + (i : Int)).toNat).toNat = (bat s (a.toNat + 2)).toNat := fun h => by rw [h]; congr 2; omega
     have k3 : i = 3 → (bat s (a + (i : Int)).toNat).toNat = (bat s (a.toNat + 3)).toNat := fun h => by rw [h]; congr 2; omega
     refine AWp_seq ?_
     refine zw3 ?_
     refine AWp_cond rfl (fun h5 => ?_) (fun h5 => ?_)
     ·(try rw [h5]); replace h5 := zcl h5
      refine AWp_skip ?_
      refine AWp_seq ?_
      refine AWp_block ?_
      refine zw7 ?_
      refine AWp_seq ?_
      refine zu3 ?_
      refine zsp 60 rfl (fun h6 => ?_) fun h6 => ?_
      ·rw [h6]; replace h6 := zcl h6
       refine zv3 ?_
       refine AWp_condT rfl ?_
       refine zw1 ?_
       refine zrt ?_
       refine ResQ_10 rfl hcl trivial (Ret_of ?_)
       congr 1
       unfold u8
       first | rw [u8N_1 (by omega)] | rw [u8N_2 (by omega) (by omega)] | rw [u8N_3 (by omega) (by omega) rfl] | rw [u8N_4 (by omega) (by omega) rfl] | rw [u8N_0 (by omega) (by omega)]
       all_goals (try split) <;> omega
      ·rw [h6]; replace h6 := zcl h6
       refine zv3 ?_
       refine AWp_cond rfl (fun h7 => ?_) (fun h7 => ?_)
       ·(try rw [h7]); replace h7 := zcl h7
        refine zw1 ?_
        refine zrt ?_
        refine ResQ_10 rfl hcl trivial (Ret_of ?_)
        congr 1
        unfold u8
        first | rw [u8N_1 (by omega)] | rw [u8N_2 (by omega) (by omega)] | rw [u8N_3 (by omega) (by omega) rfl] | rw [u8N_4 (by omega) (by omega) rfl] | rw [u8N_0 (by omega) (by omega)]
        all_goals (try split) <;> omega
       ·(try rw [h7]); replace h7 := zcl h7
        refine AWp_skip ?_
        refine AWp_regL ?_
        refine zv6 ?_
        refine AWp_regL ?_
        refine zv3 ?_
        refine ⟨(i + 1, _), σ.length, ?_, ?_, Nat.le_refl _, ⟨rfl, rfl, rfl, rfl, rfl, rfl, rfl, trivial⟩, hcl, ?_, List.take_length⟩
        ·simp only; omega
        ·simp only; omega
        ·simp [ltE, AV.lt]
     ·(try rw [h5]); replace h5 := zcl h5
      refine AWp_exit ?_
      refine AWp_seq ?_
      refine zu4 ?_
      refine zsp 72 rfl (fun h8 => ?_) fun h8 => ?_
      ·rw [h8]; replace h8 := zcl h8
       refine zg10 ?_
       refine zg1 ?_
       refine zon ?_
       refine AWp_condT rfl ?_
       refine zw1 ?_
       refine zrt ?_
       refine ResQ_10 rfl hcl trivial (Ret_of ?_)
       congr 1
       unfold u8
       first | rw [u8N_1 (by omega)] | rw [u8N_2 (by omega) (by omega)] | rw [u8N_3 (by omega) (by omega) rfl] | rw [u8N_4 (by omega) (by omega) rfl] | rw [u8N_0 (by omega) (by omega)]
       all_goals (try split) <;> omega
      ·rw [h8]; replace h8 := zcl h8
       refine zg4 ?_
       refine zsp 76 rfl (fun h9 => ?_) fun h9 => ?_
       ·rw [h9]; replace h9 := zcl h9
        refine zv7 ?_
        refine AWp_condT rfl ?_
        refine zw1 ?_
        refine zrt ?_
        refine ResQ_10 rfl hcl trivial (Ret_of ?_)
        congr 1
        unfold u8
        first | rw [u8N_1 (by omega)] | rw [u8N_2 (by omega) (by omega)] | rw [u8N_3 (by omega) (by omega) rfl] | rw [u8N_4 (by omega) (by omega) rfl] | rw [u8N_0 (by omega) (by omega)]
        all_goals (try split) <;> omega
       ·rw [h9]; replace h9 := zcl h9
        refine zg3 ?_
        refine zsp 79 rfl (fun h10 => ?_) fun h10 => ?_
        ·rw [h10]; replace h10 := zcl h10
         refine zv4 ?_
         refine AWp_cond rfl (fun h11 => ?_) (fun h11 => ?_)
         ·(try rw [h11]); replace h11 := zcl h11
          refine zw1 ?_
          refine zrt ?_
          refine ResQ_10 rfl hcl trivial (Ret_of ?_)
          congr 1
          unfold u8
          first | rw [u8N_1 (by omega)] | rw [u8N_2 (by omega) (by omega)] | rw [u8N_3 (by omega) (by omega) rfl] | rw [u8N_4 (by omega) (by omega) rfl] | rw [u8N_0 (by omega) (by omega)]
          all_goals (try split) <;> omega
         ·(try rw [h11]); replace h11 := zcl h11
          refine AWp_skip ?_
          refine zw2 ?_
          refine zrt ?_
          refine ResQ_10 rfl hcl trivial (Ret_of ?_)
          congr 1
          unfold u8
          first | rw [u8N_1 (by omega)] | rw [u8N_2 (by omega) (by omega)] | rw [u8N_3 (by omega) (by omega) rfl] | rw [u8N_4 (by omega) (by omega) rfl] | rw [u8N_0 (by omega) (by omega)]
          all_goals (try split) <;> omega
        ·rw [h10]; replace h10 := zcl h10
         refine zv4 ?_
         refine AWp_condF rfl ?_
         refine AWp_skip ?_
         refine zw2 ?_
         refine zrt ?_
         refine ResQ_10 rfl hcl trivial (Ret_of ?_)
         congr 1
         unfold u8
         first | rw [u8N_1 (by omega)] | rw [u8N_2 (by omega) (by omega)] | rw [u8N_3 (by omega) (by omega) rfl] | rw [u8N_4 (by omega) (by omega) rfl] | rw [u8N_0 (by omega) (by omega)]
         all_goals (try split) <;> omega
   ·(try rw [h3]); replace h3 := zcl h3
    refine zu3 ?_
    refine zsp 27 rfl (fun h12 => ?_) fun h12 => ?_
    ·rw [h12]; replace h12 := zcl h12
     refine zv3 ?_
     refine AWp_cond rfl (fun h13 => ?_) (fun h13 => ?_)
     ·(try rw [h13]); replace h13 := zcl h13
      refine zw1 ?_
      refine zw1 ?_
      refine AWp_regL ?_
      refine zv3 ?_
      refine AWp_seq ?_
      refine zw6 ?_
      refine AWp_cond rfl (fun h14 => ?_) (fun h14 => ?_)
      ·(try rw [h14]); replace h14 := zcl h14
       refine zw1 ?_
       refine zrt ?_
       refine ResQ_10 rfl hcl trivial (Ret_of ?_)
       congr 1
       unfold u8
       first | rw [u8N_1 (by omega)] | rw [u8N_2 (by omega) (by omega)] | rw [u8N_3 (by omega) (by omega) rfl] | rw [u8N_4 (by omega) (by omega) rfl] | rw [u8N_0 (by omega) (by omega)]
       all_goals (try split) <;> omega
      ·(try rw [h14]); replace h14 := zcl h14
       refine AWp_skip ?_
       refine AWp_seq ?_
       refine zw1 ?_
       refine AWp_block ?_
       -- loop 1 LIVE 0:param 1:param 4:assign 6:assign 7:assign 8:assign 9:assign
       refine AWp_loop (ι := Nat × Int) (fun p => (p.1 = 1 ∧ p.2 = ((bat s a.toNat).toNat : Int) - 224) ∨ (p.1 = 2 ∧ 128 ≤ ((bat s (a.toNat + 1)).toNat : Int) ∧ ((bat s (a.toNat + 1)).toNat : Int) < 192 ∧ p.2 = (64 * (((bat s a.toNat).toNat : Int) - 224) + (((bat s (a.toNat + 1)).toNat : Int) - 128))) ∨ (p.1 = 3 ∧ 128 ≤ ((bat s (a.toNat + 1)).toNat : Int) ∧ ((bat s (a.toNat + 1)).toNat : Int) < 192 ∧ 128 ≤ ((bat s (a.toNat + 2)).toNat : Int) ∧ ((bat s (a.toNat + 2)).toNat : Int) < 192 ∧ p.2 = (64 * (64 * (((bat s a.toNat).toNat : Int) - 224) + (((bat s (a.toNat + 1)).toNat : Int) - 128)) + (((bat s (a.toNat + 2)).toNat : Int) - 128)))) (fun p => ⟨[], [(0, .str s), (1, .int .i64 a), (6, .int .i64 3), (7, .int .i64 2048), (8, .int .i64 p.2), (9, .int .i64 (p.1 : Int))]⟩) (fun p => σ) (fun p => 3 - p.1) ((1, ((bat s a.toNat).toNat : Int) - 224)) (.inl ⟨rfl, rfl⟩) ?_ rfl (fun p hp => ?_)
       ·exact ⟨rfl, rfl, rfl, rfl, rfl, rfl, rfl, trivial⟩
       obtain ⟨i, v⟩ := p
       simp only at hp ⊢
       have ci := bat_lt s (a + (i : Int)).toNat
       have k1 : i = 1 → (bat s (a + (i : Int)).toNat).toNat = (bat s (a.toNat + 1)).toNat := fun h => by rw [h]; congr 2; omega
       have k2 : i = 2 → (bat s (a + (i : Int)).toNat).toNat = (bat s (a.toNat + 2)).toNat := fun h => by rw [h]; congr 2; omega
       have k3 : i = 3 → (bat s (a + (i : Int)).toNat).toNat = (bat s (a.toNat + 3)).toNat := fun h => by rw [h]; congr 2; omega
       refine AWp_seq ?_
       refine zw3 ?_
       refine AWp_cond rfl (fun h15 => ?_) (fun h15 => ?_)
       ·(try rw [h15]); replace h15 := zcl h15
        refine AWp_skip ?_
        refine AWp_seq ?_
        refine AWp_block ?_
        refine zw7 ?_
        refine AWp_seq ?_
        refine zu3 ?_
        refine zsp 60 rfl (fun h16 => ?_) fun h16 => ?_
        ·rw [h16]; replace h16 := zcl h16
         refine zv3 ?_
         refine AWp_condT rfl ?_
         refine zw1 ?_
         refine zrt ?_
         refine ResQ_10 rfl hcl trivial (Ret_of ?_)
         congr 1
         unfold u8
         first | rw [u8N_1 (by omega)] | rw [u8N_2 (by omega) (by omega)] | rw [u8N_3 (by omega) (by omega) rfl] | rw [u8N_4 (by omega) (by omega) rfl] | rw [u8N_0 (by omega) (by omega)]
         all_goals (try split) <;> omega
        ·rw [h16]; replace h16 := zcl h16
         refine zv3 ?_
         refine AWp_cond rfl (fun h17 => ?_) (fun h17 => ?_)
         ·(try rw [h17]); replace h17 := zcl h17
          refine zw1 ?_
          refine zrt ?_
          refine ResQ_10 rfl hcl trivial (Ret_of ?_)
          congr 1
          unfold u8
          first | rw [u8N_1 (by omega)] | rw [u8N_2 (by omega) (by omega)] | rw [u8N_3 (by omega) (by omega) rfl] | rw [u8N_4 (by omega) (by omega) rfl] | rw [u8N_0 (by omega) (by omega)]
          all_goals (try split) <;> omega
         ·(try rw [h17]); replace h17 := zcl h17
          refine AWp_skip ?_
          refine AWp_regL ?_
          refine zv6 ?_
          refine AWp_regL ?_
          refine zv3 ?_
          refine ⟨(i + 1, _), σ.length, ?_, ?_, Nat.le_refl _, ⟨rfl, rfl, rfl, rfl, rfl, rfl, rfl, trivial⟩, hcl, ?_, List.take_length⟩
          ·simp only; omega
          ·simp only; omega
          ·simp [ltE, AV.lt]
       ·(try rw [h15]); replace h15 := zcl h15
        refine AWp_exit ?_
        refine AWp_seq ?_
        refine zu4 ?_
        refine zsp 72 rfl (fun h18 => ?_) fun h18 => ?_
        ·rw [h18]; replace h18 := zcl h18
         refine zg10 ?_
         refine zg1 ?_
         refine zon ?_
         refine AWp_condT rfl ?_
         refine zw1 ?_
         refine zrt ?_
         refine ResQ_10 rfl hcl trivial (Ret_of ?_)
         congr 1
         unfold u8
         first | rw [u8N_1 (by omega)] | rw [u8N_2 (by omega) (by omega)] | rw [u8N_3 (by omega) (by omega) rfl] | rw [u8N_4 (by omega) (by omega) rfl] | rw [u8N_0 (by omega) (by omega)]
         all_goals (try split) <;> omega
        ·rw [h18]; replace h18 := zcl h18
         refine zg4 ?_
         refine zsp 76 rfl (fun h19 => ?_) fun h19 => ?_
         ·rw [h19]; replace h19 := zcl h19
          refine zv7 ?_
          refine AWp_condT rfl ?_
          refine zw1 ?_
          refine zrt ?_
          refine ResQ_10 rfl hcl trivial (Ret_of ?_)
          congr 1
          unfold u8
          first | rw [u8N_1 (by omega)] | rw [u8N_2 (by omega) (by omega)] | rw [u8N_3 (by omega) (by omega) rfl] | rw [u8N_4 (by omega) (by omega) rfl] | rw [u8N_0 (by omega) (by omega)]
          all_goals (try split) <;> omega
         ·rw [h19]; replace h19 := zcl h19
          refine zg3 ?_
          refine zsp 79 rfl (fun h20 => ?_) fun h20 => ?_
          ·rw [h20]; replace h20 := zcl h20
           refine zv4 ?_
           refine AWp_cond rfl (fun h21 => ?_) (fun h21 => ?_)
           ·(try rw [h21]); replace h21 := zcl h21
            refine zw1 ?_
            refine zrt ?_
            refine ResQ_10 rfl hcl trivial (Ret_of ?_)
            congr 1
            unfold u8
            first | rw [u8N_1 (by omega)] | rw [u8N_2 (by omega) (by omega)] | rw [u8N_3 (by omega) (by omega) rfl] | rw [u8N_4 (by omega) (by omega) rfl] | rw [u8N_0 (by omega) (by omega)]
            all_goals (try split) <;> omega
           ·(try rw [h21]); replace h21 := zcl h21
            refine AWp_skip ?_
            refine zw2 ?_
            refine zrt ?_
            refine ResQ_10 rfl hcl trivial (Ret_of ?_)
            congr 1
            unfold u8
            first | rw [u8N_1 (by omega)] | rw [u8N_2 (by omega) (by omega)] | rw [u8N_3 (by omega) (by omega) rfl] | rw [u8N_4 (by omega) (by omega) rfl] | rw [u8N_0 (by omega) (by omega)]
            all_goals (try split) <;> omega
          ·rw [h20]; replace h20 := zcl h20
           refine zv4 ?_
           refine AWp_condF rfl ?_
           refine AWp_skip ?_
           refine zw2 ?_
           refine zrt ?_
           refine ResQ_10 rfl hcl trivial (Ret_of ?_)
           congr 1
           unfold u8
           first | rw [u8N_1 (by omega)] | rw [u8N_2 (by omega) (by omega)] | rw [u8N_3 (by omega) (by omega) rfl] | rw [u8N_4 (by omega) (by omega) rfl] | rw [u8N_0 (by omega) (by omega)]
           all_goals (try split) <;> omega
     ·(try rw [h13]); replace h13 := zcl h13
      refine zu3 ?_
      refine zsp 35 rfl (fun h22 => ?_) fun h22 => ?_
      ·rw [h22]; replace h22 := zcl h22
       refine zv3 ?_
       refine AWp_cond rfl (fun h23 => ?_) (fun h23 => ?_)
       ·(try rw [h23]); replace h23 := zcl h23
        refine zw1 ?_
        refine zw1 ?_
        refine AWp_regL ?_
        refine zv3 ?_
        refine AWp_seq ?_
        refine zw6 ?_
        refine AWp_cond rfl (fun h24 => ?_) (fun h24 => ?_)
        ·(try rw [h24]); replace h24 := zcl h24
         refine zw1 ?_
         refine zrt ?_
         refine ResQ_10 rfl hcl trivial (Ret_of ?_)
         congr 1
         unfold u8
         first | rw [u8N_1 (by omega)] | rw [u8N_2 (by omega) (by omega)] | rw [u8N_3 (by omega) (by omega) rfl] | rw [u8N_4 (by omega) (by omega) rfl] | rw [u8N_0 (by omega) (by omega)]
         all_goals (try split) <;> omega
        ·(try rw [h24]); replace h24 := zcl h24
         refine AWp_skip ?_
         refine AWp_seq ?_
         refine zw1 ?_
         refine AWp_block ?_
         -- loop 2 LIVE 0:param 1:param 4:assign 6:assign 7:assign 8:assign 9:assign
         refine AWp_loop (ι := Nat × Int) (fun p => (p.1 = 1 ∧ p.2 = ((bat s a.toNat).toNat : Int) - 240) ∨ (p.1 = 2 ∧ 128 ≤ ((bat s (a.toNat + 1)).toNat : Int) ∧ ((bat s (a.toNat + 1)).toNat : Int) < 192 ∧ p.2 = (64 * (((bat s a.toNat).toNat : Int) - 240) + (((bat s (a.toNat + 1)).toNat : Int) - 128))) ∨ (p.1 = 3 ∧ 128 ≤ ((bat s (a.toNat + 1)).toNat : Int) ∧ ((bat s (a.toNat + 1)).toNat : Int) < 192 ∧ 128 ≤ ((bat s (a.toNat + 2)).toNat : Int) ∧ ((bat s (a.toNat + 2)).toNat : Int) < 192 ∧ p.2 = (64 * (64 * (((bat s a.toNat).toNat : Int) - 240) + (((bat s (a.toNat + 1)).toNat : Int) - 128)) + (((bat s (a.toNat + 2)).toNat : Int) - 128))) ∨ (p.1 = 4 ∧ 128 ≤ ((bat s (a.toNat + 1)).toNat : Int) ∧ ((bat s (a.toNat + 1)).toNat : Int) < 192 ∧ 128 ≤ ((bat s (a.toNat + 2)).toNat : Int) ∧ ((bat s (a.toNat + 2)).toNat : Int) < 192 ∧ 128 ≤ ((bat s (a.toNat + 3)).toNat : Int) ∧ ((bat s (a.toNat + 3)).toNat : Int) < 192 ∧ p.2 = (64 * (64 * (64 * (((bat s a.toNat).toNat : Int) - 240) + (((bat s (a.toNat + 1)).toNat : Int) - 128)) + (((bat s (a.toNat + 2)).toNat : Int) - 128)) + (((bat s (a.toNat + 3)).toNat : Int) - 128)))) (fun p => ⟨[], [(0, .str s), (1, .int .i64 a), (6, .int .i64 4), (7, .int .i64 65536), (8, .int .i64 p.2), (9, .int .i64 (p.1 : Int))]⟩) (fun p => σ) (fun p => 4 - p.1) ((1, ((bat s a.toNat).toNat : Int) - 240)) (.inl ⟨rfl, rfl⟩) ?_ rfl (fun p hp => ?_)
         ·exact ⟨rfl, rfl, rfl, rfl, rfl, rfl, rfl, trivial⟩
         obtain ⟨i, v⟩ := p
         simp only at hp ⊢
         have ci := bat_lt s (a + (i : Int)).toNat
         have k1 : i = 1 → (bat s (a + (i : Int)).toNat).toNat = (bat s (a.toNat + 1)).toNat := fun h => by rw [h]; congr 2; omega
         have k2 : i = 2 → (bat s (a + (i : Int)).toNat).toNat = (bat s (a.toNat + 2)).toNat := fun h => by rw [h]; congr 2; omega
         have k3 : i = 3 → (bat s (a + (i : Int)).toNat).toNat = (bat s (a.toNat + 3)).toNat := fun h => by rw [h]; congr 2; omega
         refine AWp_seq ?_
         refine zw3 ?_
         refine AWp_cond rfl (fun h25 => ?_) (fun h25 => ?_)
         ·(try rw [h25]); replace h25 := zcl h25
          refine AWp_skip ?_
          refine AWp_seq ?_
          refine AWp_block ?_
          refine zw7 ?_
          refine AWp_seq ?_
          refine zu3 ?_
          refine zsp 60 rfl (fun h26 => ?_) fun h26 => ?_
          ·rw [h26]; replace h26 := zcl h26
           refine zv3 ?_
           refine AWp_condT rfl ?_
           refine zw1 ?_
           refine zrt ?_
           refine ResQ_10 rfl hcl trivial (Ret_of ?_)
           congr 1
           unfold u8
           first | rw [u8N_1 (by omega)] | rw [u8N_2 (by omega) (by omega)] | rw [u8N_3 (by omega) (by omega) rfl] | rw [u8N_4 (by omega) (by omega) rfl] | rw [u8N_0 (by omega) (by omega)]
           all_goals (try split) <;> omega
          ·rw [h26]; replace h26 := zcl h26
           refine zv3 ?_
           refine AWp_cond rfl (fun h27 => ?_) (fun h27 => ?_)
           ·(try rw [h27]); replace h27 := zcl h27
            refine zw1 ?_
            refine zrt ?_
            refine ResQ_10 rfl hcl trivial (Ret_of ?_)
            congr 1
            unfold u8
            first | rw [u8N_1 (by omega)] | rw [u8N_2 (by omega) (by omega)] | rw [u8N_3 (by omega) (by omega) rfl] | rw [u8N_4 (by omega) (by omega) rfl] | rw [u8N_0 (by omega) (by omega)]
            all_goals (try split) <;> omega
           ·(try rw [h27]); replace h27 := zcl h27
            refine AWp_skip ?_
            refine AWp_regL ?_
            refine zv6 ?_
            refine AWp_regL ?_
            refine zv3 ?_
            refine ⟨(i + 1, _), σ.length, ?_, ?_, Nat.le_refl _, ⟨rfl, rfl, rfl, rfl, rfl, rfl, rfl, trivial⟩, hcl, ?_, List.take_length⟩
            ·simp only; omega
            ·simp only; omega
            ·simp [ltE, AV.lt]
         ·(try rw [h25]); replace h25 := zcl h25
          refine AWp_exit ?_
          refine AWp_seq ?_
          refine zu4 ?_
          refine zsp 72 rfl (fun h28 => ?_) fun h28 => ?_
          ·rw [h28]; replace h28 := zcl h28
           refine zg10 ?_
           refine zg1 ?_
           refine zon ?_
           refine AWp_condT rfl ?_
           refine zw1 ?_
           refine zrt ?_
           refine ResQ_10 rfl hcl trivial (Ret_of ?_)
           congr 1
           unfold u8
           first | rw [u8N_1 (by omega)] | rw [u8N_2 (by omega) (by omega)] | rw [u8N_3 (by omega) (by omega) rfl] | rw [u8N_4 (by omega) (by omega) rfl] | rw [u8N_0 (by omega) (by omega)]
           all_goals (try split) <;> omega
          ·rw [h28]; replace h28 := zcl h28
           refine zg4 ?_
           refine zsp 76 rfl (fun h29 => ?_) fun h29 => ?_
           ·rw [h29]; replace h29 := zcl h29
            refine zv7 ?_
            refine AWp_condT rfl ?_
            refine zw1 ?_
            refine zrt ?_
            refine ResQ_10 rfl hcl trivial (Ret_of ?_)
            congr 1
            unfold u8
            first | rw [u8N_1 (by omega)] | rw [u8N_2 (by omega) (by omega)] | rw [u8N_3 (by omega) (by omega) rfl] | rw [u8N_4 (by omega) (by omega) rfl] | rw [u8N_0 (by omega) (by omega)]
            all_goals (try split) <;> omega
           ·rw [h29]; replace h29 := zcl h29
            refine zg3 ?_
            refine zsp 79 rfl (fun h30 => ?_) fun h30 => ?_
            ·rw [h30]; replace h30 := zcl h30
             refine zv4 ?_
             refine AWp_cond rfl (fun h31 => ?_) (fun h31 => ?_)
             ·(try rw [h31]); replace h31 := zcl h31
              refine zw1 ?_
              refine zrt ?_
              refine ResQ_10 rfl hcl trivial (Ret_of ?_)
              congr 1
              unfold u8
              first | rw [u8N_1 (by omega)] | rw [u8N_2 (by omega) (by omega)] | rw [u8N_3 (by omega) (by omega) rfl] | rw [u8N_4 (by omega) (by omega) rfl] | rw [u8N_0 (by omega) (by omega)]
              all_goals (try split) <;> omega
             ·(try rw [h31]); replace h31 := zcl h31
              refine AWp_skip ?_
              refine zw2 ?_
              refine zrt ?_
              refine ResQ_10 rfl hcl trivial (Ret_of ?_)
              congr 1
              unfold u8
              first | rw [u8N_1 (by omega)] | rw [u8N_2 (by omega) (by omega)] | rw [u8N_3 (by omega) (by omega) rfl] | rw [u8N_4 (by omega) (by omega) rfl] | rw [u8N_0 (by omega) (by omega)]
              all_goals (try split) <;> omega
            ·rw [h30]; replace h30 := zcl h30
             refine zv4 ?_
             refine AWp_condF rfl ?_
             refine AWp_skip ?_
             refine zw2 ?_
             refine zrt ?_
             refine ResQ_10 rfl hcl trivial (Ret_of ?_)
             congr 1
             unfold u8
             first | rw [u8N_1 (by omega)] | rw [u8N_2 (by omega) (by omega)] | rw [u8N_3 (by omega) (by omega) rfl] | rw [u8N_4 (by omega) (by omega) rfl] | rw [u8N_0 (by omega) (by omega)]
             all_goals (try split) <;> omega
       ·(try rw [h23]); replace h23 := zcl h23
        refine zw1 ?_
        refine zrt ?_
        refine ResQ_10 rfl hcl trivial (Ret_of ?_)
        congr 1
        unfold u8
        first | rw [u8N_1 (by omega)] | rw [u8N_2 (by omega) (by omega)] | rw [u8N_3 (by omega) (by omega) rfl] | rw [u8N_4 (by omega) (by omega) rfl] | rw [u8N_0 (by omega) (by omega)]
        all_goals (try split) <;> omega
      ·rw [h22]; replace h22 := zcl h22
       exfalso; omega
    ·rw [h12]; replace h12 := zcl h12
     exfalso; omega
  ·rw [h2]; replace h2 := zcl h2
   refine zv3 ?_
   refine AWp_condF rfl ?_
   refine zu3 ?_
   refine zsp 27 rfl (fun h32 => ?_) fun h32 => ?_
   ·rw [h32]; replace h32 := zcl h32
    exfalso; omega
   ·rw [h32]; replace h32 := zcl h32
    refine zv3 ?_
    refine AWp_condF rfl ?_
    refine zu3 ?_
    refine zsp 35 rfl (fun h33 => ?_) fun h33 => ?_
    ·rw [h33]; replace h33 := zcl h33
     exfalso; omega
    ·rw [h33]; replace h33 := zcl h33
     refine zv3 ?_
     refine AWp_condF rfl ?_
     refine zw1 ?_
     refine zrt ?_
     refine ResQ_10 rfl hcl trivial (Ret_of ?_)
     congr 1
     unfold u8
     first | rw [u8N_1 (by omega)] | rw [u8N_2 (by omega) (by omega)] | rw [u8N_3 (by omega) (by omega) rfl] | rw [u8N_4 (by omega) (by omega) rfl] | rw [u8N_0 (by omega) (by omega)]
     all_goals (try split) <;> omega

end Lg
