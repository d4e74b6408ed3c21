/- A part of the proof of For every input the law doubletlaw07.EditTells returns true: what comes of any value by adding, removing, replacing at any pointer, or what is amiss, is what the document's answer says; the input reads as it did.: M2 M3 Lt4 Lt5 Le9 Le10 Le11 Le12 Y15 Le13 Y16 VYt. -/
import Derived.Test.YtdacoelmmaiffaaGreatDoorP5
import Derived.Test.YtdacoelmmaiffaaGreatDoorP6
import Derived.Test.YtdacoelmmaiffaaGreatDoorP4
import Derived.Test.YtdacoelmmaiffaaGreatDoorP7
import Derived.Test.YtdacoelmmaiffaaGreatDoorP9
import Derived.SizedLaws
set_option linter.unusedVariables false
set_option linter.unusedSimpArgs false
set_option linter.unusedSectionVars false
set_option maxRecDepth 20000
set_option maxHeartbeats 4000000
namespace Lg
open Go Go.Proofs Go.RowKit
variable [GLay] 
theorem redit_0 (op : Int) (x : JV) (xs : List AV) (hxs : vcells x = xs) (f : Bool) (v : JV) (cs : List AV) (σ : List AO) (hc : vcells v = cs) : ACalls Tryz.prog 16 [.int .i64 op, .agg cs, .sl f 1 (srow []), .agg xs] σ (Ret (.tup [.agg (vcells (jed op x [] v).1), .int .i64 (jed op x [] v).2]) σ) := by
 refine ACalls_bodyC Tryz.func16 rfl Tryz.ntmps16 (by rw [Tryz.results16]; exact (.ck Tryz.isAgg28 Tryz.sizeOf28 (.t .nil))) (Nat.le_of_ble_eq_true rfl) (fun hcl hal => ?_)
 subst hc
 subst hxs
 rw [vcells_eq v, vcells_eq x]
 refine zw4 ?_
 refine AWp_seq ?_
 refine zu2 ?_
 refine zt rfl (op_eqlT rfl rfl rfl rfl) ?_
 refine zon ?_
 refine AWp_condT rfl ?_
 refine AWp_seq ?_
 refine zw2 ?_
 refine AWp_cond rfl (fun h1 => ?_) (fun h1 => ?_)
 ·(try rw [h1]); replace h1 := zcl h1
  refine zw3 ?_
  refine AWp_boxLeO 2 (bs' := [.int .i64 vz.kind, .bool vz.b, .bool vz.n.neg, .str vz.n.digits, .int .i64 vz.n.exp, .str vz.s, .sl false 8 (lcells vz.l), .sl false 9 (mcells vz.m)]) rfl ⟨AVle.refl _, AVle.refl _, AVle.refl _, AVle.refl _, AVle.refl _, AVle.refl _, nilL, nilM, trivial⟩ ?_
  refine zrt ?_
  subst h1
  rw [jed_nil2, vcells_eq]
  exact RQ_ret (rkvs_cons (rkv_ck rfl rfl rfl) (rkvs_cons (rkv_t rfl) rfl)) hcl (by simp [rks, AV.lt, AV.ltL]) ⟨rfl, rfl⟩
 ·(try rw [h1]); replace h1 := zcl h1
  refine AWp_skip ?_
  refine zw3 ?_
  refine zrt ?_
  rw [jed_nil h1, vcells_eq x]
  exact RQ_ret (rkvs_cons (rkv_ck rfl rfl rfl) (rkvs_cons (rkv_t rfl) rfl)) hcl (by simp [rks, AV.lt, AV.ltL]) ⟨rfl, rfl⟩

theorem redit_4 (op : Int) (x : JV) (xs : List AV) (hxs : vcells x = xs) (r : List BL) (ih : ∀ (v : JV) (cs : List AV) (es : List (List AV)) (σ : List AO), vcells v = cs → es = srow r → jb v → ACalls Tryz.prog 16 [.int .i64 op, .agg cs, .sl false 1 es, .agg xs] σ (Ret (.tup [.agg (vcells (jed op x r v).1), .int .i64 (jed op x r v).2]) σ)) (f : Bool) (nm : BL) (v : JV) (cs : List AV) (σ : List AO) (hc : vcells v = cs) (hjb : jb v) (hop : 1 ≤ op ∧ op ≤ 3) (hnm : nm.length ≤ 1000000) (hk4 : v.kind = 4) : ACalls Tryz.prog 16 [.int .i64 op, .agg cs, .sl f 1 (srow (nm :: r)), .agg xs] σ (Ret (.tup [.agg (vcells (jed op x (nm :: r) v).1), .int .i64 (jed op x (nm :: r) v).2]) σ) := by
 refine ACalls_bodyC Tryz.func16 rfl Tryz.ntmps16 (by rw [Tryz.results16]; exact (.ck Tryz.isAgg28 Tryz.sizeOf28 (.t .nil))) (Nat.le_of_ble_eq_true rfl) (fun hcl hal => ?_)
 subst hc
 obtain ⟨last, hlast⟩ : ∃ b, r.isEmpty = b := ⟨_, rfl⟩
 have hls : decide ((((srow (nm :: r)).length : Nat) : Int) = 1) = last := by rw [← hlast, srow_len, List.length_cons]; cases r <;> simp <;> omega
 obtain ⟨hb1, hb2, hb3, hb4, hb5, hb6⟩ := (jb_eq v).1 hjb
 have hll := lcells_length v.l
 have hml := mcells_length v.m
 have hsl : 1 ≤ (srow (nm :: r)).length := by rw [srow_len, List.length_cons]; omega
 rw [vcells_eq v, ← hxs, vcells_eq x]
 rw [← hxs, vcells_eq x] at ih
 have hix : ∀ (e : Bool) (τ : List AO), e = (decide (op = 1) && last) → ACalls Tryz.prog 47 [.str (ba nm), .int .i64 ((lcells v.l).length : Int), .bool e] τ (Ret (.tup [.int .i64 (jeK op nm last v), .bool (jeO op nm last v)]) τ) := by
  intro e τ he; subst he; rw [hll]; exact ridx_c nm v.l.length _ τ hnm (by omega)
 refine zw4 ?_
 refine AWp_seq ?_
 refine zu2 ?_
 refine zt rfl (op_eqlF rfl rfl rfl (by rw [srow_len, List.length_cons]; omega)) ?_
 refine zon ?_
 refine AWp_condF rfl ?_
 refine AWp_skip ?_
 refine zw3 ?_
 refine zw2 ?_
 refine zw2 ?_
 refine zu3 ?_
 rw [hls]
 refine zv1 ?_
 refine AWp_seq ?_
 refine zw3 ?_
 refine AWp_cond rfl (fun h1 => ?_) (fun h1 => ?_)
 ·(try rw [h1]); replace h1 := zcl h1
  refine AWp_join (ι := Unit) (fun z => True) (fun z => ⟨[], [(0, .int .i64 op), (2, .sl f 1 (srow (nm :: r))), (5, .ptr (σ.length + 0) 0), (7, .ptr (σ.length + 1) 0), (8, .ptr (σ.length + 2) 0), (9, .int .i64 0), (10, .ptr (σ.length + 3) 0), (11, .bool last), (12, .int .i64 (jeK op nm last v)), (13, .bool (jeO op nm last v))]⟩) (fun z => σ ++ [.box [.int .i64 v.kind, .bool v.b, .bool v.n.neg, .str v.n.digits, .int .i64 v.n.exp, .str v.s, .sl false 8 (lcells v.l), .sl false 9 (mcells v.m)], .box [.int .i64 x.kind, .bool x.b, .bool x.n.neg, .str x.n.digits, .int .i64 x.n.exp, .str x.s, .sl false 8 (lcells x.l), .sl false 9 (mcells x.m)], .box [.int .i64 0, .bool false, .bool false, .str ⟨#[]⟩, .int .i64 0, .str ⟨#[]⟩, .nils, .nils], .box [.int .i64 v.kind, .bool v.b, .bool v.n.neg, .str v.n.digits, .int .i64 v.n.exp, .str v.s, .nils, .nils]]) ?_ (fun z hj => ?_)
  ·skip
   refine AWp_drawL #[0, 1, 3, 0, 8, 24, 0, 64, 192, 448, 960, 2047, 4095, 8191, 8191, 16383, 65535] Tryz.mixed (by decide +kernel) (by decide +kernel) ?_
   refine zd1 ?_
   refine yA rfl rfl (fun _ => op_indexAddr rfl Tryz.underlying31 Tryz.sizeOf9 rfl rfl (by omega) (rfl)) ?_
   refine zp1 ?_
   refine zd1 ?_
   refine zp1 ?_
   refine zd4 ?_
   refine zspr 50 rfl (fun h2 => ?_) fun h2 => ?_
   ·rw [h2]; replace h2 := zcl h2
    have he : last = (decide (op = 1) && last) := by simp [h2]
    refine zd2 ?_
    refine yP rfl rfl (zc rfl (hix _ _ he)) (trivial) ?_
    refine zd5 ?_
    refine RP.nil rfl ?_
    exact ⟨(), trivial, ⟨rfl, rfl, rfl, rfl, rfl, rfl, rfl, rfl, rfl, rfl, rfl, trivial⟩, rfl⟩
   ·rw [h2]; replace h2 := zcl h2
    have he : false = (decide (op = 1) && last) := by simp [h2]
    refine zd2 ?_
    refine yP rfl rfl (zc rfl (hix _ _ he)) (trivial) ?_
    refine zd5 ?_
    refine RP.nil rfl ?_
    exact ⟨(), trivial, ⟨rfl, rfl, rfl, rfl, rfl, rfl, rfl, rfl, rfl, rfl, rfl, trivial⟩, rfl⟩
  ·skip
   obtain ⟨k, hk, hkn⟩ := jeK_nat (op := op) (nm := nm) (last := last) (v := v)
   rw [hk]
   refine AWp_seq ?_
   refine zw2 ?_
   refine AWp_cond rfl (fun h3 => ?_) (fun h3 => ?_)
   ·(try rw [h3]); replace h3 := zcl h3
    refine zw3 ?_
    refine AWp_boxLeO 2 (bs' := [.int .i64 vz.kind, .bool vz.b, .bool vz.n.neg, .str vz.n.digits, .int .i64 vz.n.exp, .str vz.s, .sl false 8 (lcells vz.l), .sl false 9 (mcells vz.m)]) rfl ⟨AVle.refl _, AVle.refl _, AVle.refl _, AVle.refl _, AVle.refl _, AVle.refl _, nilL, nilM, trivial⟩ ?_
    refine zrt ?_
    rw [jedA_no hlast hk4 (by simpa using h3), vcells_eq]
    exact RQ_ret (rkvs_cons (rkv_ck rfl rfl rfl) (rkvs_cons (rkv_t rfl) rfl)) hcl (by simp [rks, AV.lt, AV.ltL]) ⟨rfl, rfl⟩
   ·(try rw [h3]); replace h3 := zcl h3
    refine AWp_skip ?_
    refine AWp_seq ?_
    refine AWp_seq ?_
    refine AWp_boxLeO 3 (bs' := [.int .i64 v.kind, .bool v.b, .bool v.n.neg, .str v.n.digits, .int .i64 v.n.exp, .str v.s, .nils, .sl false 9 (mcells [])]) rfl ⟨AVle.refl _, AVle.refl _, AVle.refl _, AVle.refl _, AVle.refl _, AVle.refl _, AVle.refl _, nilM, trivial⟩ ?_
    refine AWp_ghostInO 3 6 8 4 rfl rfl rfl ?_
    have hko : jeO op nm last v = true := by simpa using h3
    have hkn := hkn hko
    refine AWp_regL ?_
    refine zv1 ?_
    refine AWp_block ?_
    -- loop 0 LIVE 0:param 2:param 5:box 7:box 8:alloc 9:assign 10:alloc 11:assign 12:assign 14:assign
    refine AWp_loop (ι := Nat) (fun i => i ≤ v.l.length + 1 ∧ (last = false → k < i → (jed op x r (v.l.getD k vz)).2 = 0)) (fun i => ⟨[], [(0, .int .i64 op), (2, .sl f 1 (srow (nm :: r))), (5, .ptr (σ.length + 0) 0), (7, .ptr (σ.length + 1) 0), (8, .ptr (σ.length + 2) 0), (9, .int .i64 0), (10, .ptr (σ.length + 3) 0), (11, .bool last), (12, .int .i64 (k : Int)), (14, .int .i64 (i : Int))]⟩) (fun i => σ ++ [.box [.int .i64 v.kind, .bool v.b, .bool v.n.neg, .str v.n.digits, .int .i64 v.n.exp, .str v.s, .sl false 8 (lcells v.l), .sl false 9 (mcells v.m)], .box [.int .i64 x.kind, .bool x.b, .bool x.n.neg, .str x.n.digits, .int .i64 x.n.exp, .str x.s, .sl false 8 (lcells x.l), .sl false 9 (mcells x.m)], .box [.int .i64 0, .bool false, .bool false, .str ⟨#[]⟩, .int .i64 0, .str ⟨#[]⟩, .nils, .nils], .box [.int .i64 v.kind, .bool v.b, .bool v.n.neg, .str v.n.digits, .int .i64 v.n.exp, .str v.s, .arr (σ.length + 4) (eA last op k x (jed op x r (v.l.getD k vz)).1 v.l i).length 8 0 (eA last op k x (jed op x r (v.l.getD k vz)).1 v.l i).length, .sl false 9 (mcells [])], .arr 8 (eA last op k x (jed op x r (v.l.getD k vz)).1 v.l i).length (lcells (eA last op k x (jed op x r (v.l.getD k vz)).1 v.l i)).flatten]) (fun i => v.l.length + 1 - i) (0) (⟨Nat.zero_le _, fun _ h => by omega⟩) ?_ rfl (fun i hi => ?_)
    ·exact ⟨rfl, rfl, rfl, rfl, rfl, rfl, rfl, rfl, rfl, rfl, rfl, trivial⟩
    obtain ⟨hi1, hi2⟩ := hi
    have hea := eA_bd (last := last) (op := op) (k := k) (x := x) (y := (jed op x r (v.l.getD k vz)).1) (l := v.l) i
    have hei := eIns_bd (last := last) (op := op) (k := k) (x := x) (i := i)
    have heb : ((eA last op k x (jed op x r (v.l.getD k vz)).1 v.l i) ++ (eIns last op k x i)).length = (eA last op k x (jed op x r (v.l.getD k vz)).1 v.l i).length + (eIns last op k x i).length := List.length_append
    refine AWp_seq ?_
    refine zw5 ?_
    refine AWp_cond rfl (fun h4 => ?_) (fun h4 => ?_)
    ·(try rw [h4]); replace h4 := zcl h4
     refine AWp_skip ?_
     refine AWp_seq ?_
     refine AWp_block ?_
     refine AWp_join (ι := Unit) (fun b => True) (fun b => ⟨[], [(0, .int .i64 op), (2, .sl f 1 (srow (nm :: r))), (5, .ptr (σ.length + 0) 0), (7, .ptr (σ.length + 1) 0), (8, .ptr (σ.length + 2) 0), (9, .int .i64 0), (10, .ptr (σ.length + 3) 0), (11, .bool last), (12, .int .i64 (k : Int)), (14, .int .i64 (i : Int))]⟩) (fun b => σ ++ [.box [.int .i64 v.kind, .bool v.b, .bool v.n.neg, .str v.n.digits, .int .i64 v.n.exp, .str v.s, .sl false 8 (lcells v.l), .sl false 9 (mcells v.m)], .box [.int .i64 x.kind, .bool x.b, .bool x.n.neg, .str x.n.digits, .int .i64 x.n.exp, .str x.s, .sl false 8 (lcells x.l), .sl false 9 (mcells x.m)], .box [.int .i64 0, .bool false, .bool false, .str ⟨#[]⟩, .int .i64 0, .str ⟨#[]⟩, .nils, .nils], .box [.int .i64 v.kind, .bool v.b, .bool v.n.neg, .str v.n.digits, .int .i64 v.n.exp, .str v.s, .arr (σ.length + 4) ((eA last op k x (jed op x r (v.l.getD k vz)).1 v.l i) ++ (eIns last op k x i)).length 8 0 ((eA last op k x (jed op x r (v.l.getD k vz)).1 v.l i) ++ (eIns last op k x i)).length, .sl false 9 (mcells [])], .arr 8 ((eA last op k x (jed op x r (v.l.getD k vz)).1 v.l i) ++ (eIns last op k x i)).length (lcells ((eA last op k x (jed op x r (v.l.getD k vz)).1 v.l i) ++ (eIns last op k x i))).flatten]) ?_ (fun b hj => ?_)
     ·skip
      refine zu4 ?_
      refine zsp 69 rfl (fun h5 => ?_) fun h5 => ?_
      ·rw [h5]; replace h5 := zcl h5
       refine zg3 ?_
       refine zsp 72 rfl (fun h6 => ?_) fun h6 => ?_
       ·rw [h6]; replace h6 := zcl h6
        subst h6
        refine zv3 ?_
        refine AWp_cond rfl (fun h7 => ?_) (fun h7 => ?_)
        ·(try rw [h7]); replace h7 := zcl h7
         refine AWp_regL ?_
         refine zg3 ?_
         refine zt rfl (op_buildSlice [[_, _, _, _, _, _, _, _]] rfl Tryz.underlying25 Tryz.sizeOf28 Tryz.zeroValue28 rfl (by decide) (by decide) rfl rfl rfl rfl rfl) ?_
         refine zt rfl (op_appendArrT rfl 4 (sz := 8) (m := 1) (len := (eA true op k x (jed op x r (v.l.getD k vz)).1 v.l i).length) (cs := _) rfl (.inr ⟨_, rfl⟩) Tryz.underlying25 Tryz.underlying25 Tryz.type28 rfl rfl rfl (by decide) rfl rfl (lflat_len _).symm rfl rfl rfl (by show ((eA true op k x (jed op x r (v.l.getD k vz)).1 v.l i).length + 1) * 112 ≤ _; omega) (by omega) rfl) ?_
         refine zg1 ?_
         refine ztN rfl rfl (op_storeO (r := [.int .i64 v.kind, .bool v.b, .bool v.n.neg, .str v.n.digits, .int .i64 v.n.exp, .str v.s, .arr (σ.length + 4) ((eA true op k x (jed op x r (v.l.getD k vz)).1 v.l i).length + 1) 8 0 ((eA true op k x (jed op x r (v.l.getD k vz)).1 v.l i).length + 1), .sl false 9 (mcells [])]) rfl Tryz.sizeOf25 rfl rfl rfl rfl rfl (by decide)) ?_
         refine zon ?_
         have hin := eIns_y (x := x) (last := true) (op := op) (k := k) (i := i) ⟨by omega, rfl, by omega⟩
         refine ⟨(), trivial, ⟨rfl, rfl, rfl, rfl, rfl, rfl, rfl, rfl, rfl, rfl, rfl, trivial⟩, ?_⟩
         rw [hin, lcells_snoc, List.length_append, vcells_eq x]; rfl
        ·(try rw [h7]); replace h7 := zcl h7
         refine AWp_skip ?_
         have hin := eIns_n (x := x) (last := true) (op := op) (k := k) (i := i) (fun z => by have := z.2.2; omega)
         refine ⟨(), trivial, ⟨rfl, rfl, rfl, rfl, rfl, rfl, rfl, rfl, rfl, rfl, rfl, trivial⟩, ?_⟩
         rw [hin, List.append_nil]
       ·rw [h6]; replace h6 := zcl h6
        subst h6
        refine zv3 ?_
        refine AWp_condF rfl ?_
        refine AWp_skip ?_
        have hin := eIns_n (x := x) (last := false) (op := op) (k := k) (i := i) (fun z => by cases z.2.1)
        refine ⟨(), trivial, ⟨rfl, rfl, rfl, rfl, rfl, rfl, rfl, rfl, rfl, rfl, rfl, trivial⟩, ?_⟩
        rw [hin, List.append_nil]
      ·rw [h5]; replace h5 := zcl h5
       refine zv6 ?_
       refine AWp_condF rfl ?_
       refine AWp_skip ?_
       have hin := eIns_n (x := x) (last := last) (op := op) (k := k) (i := i) (fun z => by have := z.1; omega)
       refine ⟨(), trivial, ⟨rfl, rfl, rfl, rfl, rfl, rfl, rfl, rfl, rfl, rfl, rfl, trivial⟩, ?_⟩
       rw [hin, List.append_nil]
     ·skip
      refine AWp_join (ι := Unit) (fun b => i < v.l.length ∧ ¬ (i = k ∧ last = true ∧ ¬ op = 1)) (fun b => ⟨[], [(0, .int .i64 op), (2, .sl f 1 (srow (nm :: r))), (5, .ptr (σ.length + 0) 0), (7, .ptr (σ.length + 1) 0), (8, .ptr (σ.length + 2) 0), (9, .int .i64 0), (10, .ptr (σ.length + 3) 0), (11, .bool last), (12, .int .i64 (k : Int)), (14, .int .i64 (i : Int))]⟩) (fun b => σ ++ [.box [.int .i64 v.kind, .bool v.b, .bool v.n.neg, .str v.n.digits, .int .i64 v.n.exp, .str v.s, .sl false 8 (lcells v.l), .sl false 9 (mcells v.m)], .box [.int .i64 x.kind, .bool x.b, .bool x.n.neg, .str x.n.digits, .int .i64 x.n.exp, .str x.s, .sl false 8 (lcells x.l), .sl false 9 (mcells x.m)], .box [.int .i64 0, .bool false, .bool false, .str ⟨#[]⟩, .int .i64 0, .str ⟨#[]⟩, .nils, .nils], .box [.int .i64 v.kind, .bool v.b, .bool v.n.neg, .str v.n.digits, .int .i64 v.n.exp, .str v.s, .arr (σ.length + 4) ((eA last op k x (jed op x r (v.l.getD k vz)).1 v.l i) ++ (eIns last op k x i)).length 8 0 ((eA last op k x (jed op x r (v.l.getD k vz)).1 v.l i) ++ (eIns last op k x i)).length, .sl false 9 (mcells [])], .arr 8 ((eA last op k x (jed op x r (v.l.getD k vz)).1 v.l i) ++ (eIns last op k x i)).length (lcells ((eA last op k x (jed op x r (v.l.getD k vz)).1 v.l i) ++ (eIns last op k x i))).flatten]) ?_ (fun b hj => ?_)
      ·skip
       refine zu6 ?_
       refine zsp 87 rfl (fun h8 => ?_) fun h8 => ?_
       ·rw [h8]; replace h8 := zcl h8
        refine zg10 ?_
        refine zg1 ?_
        refine zon ?_
        refine AWp_condT rfl ?_
        refine AWp_exit ?_
        refine AWp_regL ?_
        refine zv3 ?_
        have hE1 : (eA last op k x (jed op x r (v.l.getD k vz)).1 v.l (i + 1)) = ((eA last op k x (jed op x r (v.l.getD k vz)).1 v.l i) ++ (eIns last op k x i)) := by rw [eA, eOld_end (List.getElem?_eq_none (by omega)), List.append_nil]
        refine ⟨i + 1, σ.length + 5, ⟨by omega, fun hl hlt => hi2 hl (by have := hkn.2 hl; omega)⟩, by omega, by simp, ⟨rfl, rfl, rfl, rfl, rfl, rfl, rfl, rfl, rfl, rfl, rfl, trivial⟩, closed_own 5 hcl ?_, ?_, ?_⟩
        ·simp [ownLt, AO.cells, AV.ltL, AV.lt, ltL_append, lflat_lt]
        ·simp [ltE, AV.lt, AV.ltL]
        ·refine (take_own 5).trans ?_
         rw [hE1]; rfl
       ·rw [h8]; replace h8 := zcl h8
        refine zg4 ?_
        refine zsp 91 rfl (fun h9 => ?_) fun h9 => ?_
        ·rw [h9]; replace h9 := zcl h9
         refine zg3 ?_
         refine zsp 94 rfl (fun h10 => ?_) fun h10 => ?_
         ·rw [h10]; replace h10 := zcl h10
          subst h10
          refine zv4 ?_
          refine AWp_cond rfl (fun h11 => ?_) (fun h11 => ?_)
          ·(try rw [h11]); replace h11 := zcl h11
           refine AWp_exit ?_
           refine AWp_regL ?_
           refine zv3 ?_
           have hE1 : (eA true op k x (jed op x r (v.l.getD k vz)).1 v.l (i + 1)) = ((eA true op k x (jed op x r (v.l.getD k vz)).1 v.l i) ++ (eIns true op k x i)) := by rw [eA, eOld_del (by omega) rfl (by omega), List.append_nil]
           refine ⟨i + 1, σ.length + 5, ⟨by omega, fun hl => by cases hl⟩, by omega, by simp, ⟨rfl, rfl, rfl, rfl, rfl, rfl, rfl, rfl, rfl, rfl, rfl, trivial⟩, closed_own 5 hcl ?_, ?_, ?_⟩
           ·simp [ownLt, AO.cells, AV.ltL, AV.lt, ltL_append, lflat_lt]
           ·simp [ltE, AV.lt, AV.ltL]
           ·refine (take_own 5).trans ?_
            rw [hE1]; rfl
          ·(try rw [h11]); replace h11 := zcl h11
           refine AWp_skip ?_
           refine ⟨(), ⟨by omega, ?_⟩, ⟨rfl, rfl, rfl, rfl, rfl, rfl, rfl, rfl, rfl, rfl, rfl, trivial⟩, rfl⟩
           rintro ⟨_, _, h⟩; omega
         ·rw [h10]; replace h10 := zcl h10
          subst h10
          refine zv4 ?_
          refine AWp_condF rfl ?_
          refine AWp_skip ?_
          refine ⟨(), ⟨by omega, ?_⟩, ⟨rfl, rfl, rfl, rfl, rfl, rfl, rfl, rfl, rfl, rfl, rfl, trivial⟩, rfl⟩
          rintro ⟨_, h, _⟩; cases h
        ·rw [h9]; replace h9 := zcl h9
         refine zv7 ?_
         refine AWp_condF rfl ?_
         refine AWp_skip ?_
         refine ⟨(), ⟨by omega, ?_⟩, ⟨rfl, rfl, rfl, rfl, rfl, rfl, rfl, rfl, rfl, rfl, rfl, trivial⟩, rfl⟩
         rintro ⟨h, _, _⟩; omega
      ·skip
       obtain ⟨hj1, hj2⟩ := hj
       obtain ⟨a, hx⟩ : ∃ a, v.l[i]? = some a := ⟨_, List.getElem?_eq_getElem hj1⟩
       refine zu4 ?_
       rw [vcells_eq a]
       refine zv3 ?_
       refine AWp_seq ?_
       refine zu4 ?_
       refine zsp 107 rfl (fun h12 => ?_) fun h12 => ?_
       ·rw [h12]; replace h12 := zcl h12
        have hik : i = k := by omega
        have hka : v.l[k]? = some a := by rw [← hik]; exact hx
        have hgd : v.l.getD k vz = a := by rw [List.getD_eq_getElem?_getD, hka]; rfl
        refine zv3 ?_
        refine AWp_cond rfl (fun h13 => ?_) (fun h13 => ?_)
        ·(try rw [h13]); replace h13 := zcl h13
         have hlf : last = false := by simpa using h13
         refine AWp_seq ?_
         refine AWp_drawL #[0, 0, 0, 4, 0, 31, 63, 127, 127, 0, 767, 2047] Tryz.mixed (by decide +kernel) (by decide +kernel) ?_
         refine zd1 ?_
         refine zp1 ?_
         refine zd1 ?_
         refine yA rfl rfl (fun _ => (by first | exact op_sliceSl _ _ rfl Tryz.underlying31 Tryz.sizeOf9 rfl (by first | exact ⟨_, rfl⟩ | rfl) (by first | exact ⟨_, rfl⟩ | rfl) (by omega) (by omega) (by omega) | exact op_sliceArr _ _ rfl Tryz.underlying31 Tryz.sizeOf9 rfl GET (by first | exact ⟨_, rfl⟩ | rfl) (by first | exact ⟨_, rfl⟩ | rfl) (by omega) (by omega) (by omega))) ?_
         refine zp1 ?_
         refine yP rfl rfl (zc rfl (ih a _ _ _ (vcells_eq a) (srow_tail nm r) (lb_get hb5 hx))) (trivial) ?_
         rw [vcells_eq (jed op x r a).1]
         refine zd3 ?_
         refine yE rfl rfl (zoa) (⟨.inr (by rw [← vcells_eq (jed op x r a).1]; exact zc rfl (ih a _ _ _ (vcells_eq a) (srow_tail nm r) (lb_get hb5 hx))), ⟨.inr zoa, ⟨.inr zoa, trivial⟩⟩⟩) (trivial) ?_
         refine yEN rfl rfl rfl (zoa) (⟨.inl rfl, ⟨.inl rfl, ⟨.inl rfl, trivial⟩⟩⟩) (⟨rfl, trivial⟩) ?_
         refine zd1 ?_
         refine RP.nil rfl ?_
         refine AWp_seq ?_
         refine zw2 ?_
         refine AWp_cond rfl (fun h14 => ?_) (fun h14 => ?_)
         ·(try rw [h14]); replace h14 := zcl h14
          refine zw4 ?_
          refine AWp_boxLeO 2 (bs' := [.int .i64 vz.kind, .bool vz.b, .bool vz.n.neg, .str vz.n.digits, .int .i64 vz.n.exp, .str vz.s, .sl false 8 (lcells vz.l), .sl false 9 (mcells vz.m)]) rfl ⟨AVle.refl _, AVle.refl _, AVle.refl _, AVle.refl _, AVle.refl _, AVle.refl _, nilL, nilM, trivial⟩ ?_
          refine zrt ?_
          rw [jedA_bad hlast hk4 hk hko hlf hka h14, vcells_eq]
          exact RQ_ret (rkvs_cons (rkv_ck rfl rfl rfl) (rkvs_cons (rkv_t rfl) rfl)) hcl (by simp [rks, AV.lt, AV.ltL]) ⟨rfl, rfl⟩
         ·(try rw [h14]); replace h14 := zcl h14
          refine AWp_skip ?_
          refine AWp_regL ?_
          refine zv2 ?_
          refine AWp_regL ?_
          refine zg3 ?_
          refine zt rfl (op_buildSlice [[_, _, _, _, _, _, _, _]] rfl Tryz.underlying25 Tryz.sizeOf28 Tryz.zeroValue28 rfl (by decide) (by decide) rfl rfl rfl rfl rfl) ?_
          refine zt rfl (op_appendArrT rfl 4 (sz := 8) (m := 1) (len := ((eA last op k x (jed op x r (v.l.getD k vz)).1 v.l i) ++ (eIns last op k x i)).length) (cs := _) rfl (.inr ⟨_, rfl⟩) Tryz.underlying25 Tryz.underlying25 Tryz.type28 rfl rfl rfl (by decide) rfl rfl (lflat_len _).symm rfl rfl rfl (by show (((eA last op k x (jed op x r (v.l.getD k vz)).1 v.l i) ++ (eIns last op k x i)).length + 1) * 112 ≤ _; omega) (by omega) rfl) ?_
          refine zg1 ?_
          refine ztN rfl rfl (op_storeO (r := [.int .i64 v.kind, .bool v.b, .bool v.n.neg, .str v.n.digits, .int .i64 v.n.exp, .str v.s, .arr (σ.length + 4) (((eA last op k x (jed op x r (v.l.getD k vz)).1 v.l i) ++ (eIns last op k x i)).length + 1) 8 0 (((eA last op k x (jed op x r (v.l.getD k vz)).1 v.l i) ++ (eIns last op k x i)).length + 1), .sl false 9 (mcells [])]) rfl Tryz.sizeOf25 rfl rfl rfl rfl rfl (by decide)) ?_
          refine zon ?_
          refine AWp_regL ?_
          refine zv3 ?_
          have hE1 : (eA last op k x (jed op x r (v.l.getD k vz)).1 v.l (i + 1)) = ((eA last op k x (jed op x r (v.l.getD k vz)).1 v.l i) ++ (eIns last op k x i)) ++ [(jed op x r a).1] := by rw [eA, eOld_ed hx hik hlf, hgd]
          refine ⟨i + 1, σ.length + 5, ⟨by omega, fun _ _ => by rw [hgd]; omega⟩, by omega, by simp, ⟨rfl, rfl, rfl, rfl, rfl, rfl, rfl, rfl, rfl, rfl, rfl, trivial⟩, closed_own 5 hcl ?_, ?_, ?_⟩
          ·simp [ownLt, AO.cells, AV.ltL, AV.lt, ltL_append, lflat_lt]
          ·simp [ltE, AV.lt, AV.ltL]
          ·refine (take_own 5).trans ?_
           rw [hE1, lcells_snoc, len_snoc, vcells_eq (jed op x r a).1]; rfl
        ·(try rw [h13]); replace h13 := zcl h13
         have hlf : last = true := by simpa using h13
         have hop1 : op = 1 := Classical.byContradiction fun z => hj2 ⟨hik, hlf, z⟩
         refine AWp_skip ?_
         refine AWp_regL ?_
         refine zg3 ?_
         refine zt rfl (op_buildSlice [[_, _, _, _, _, _, _, _]] rfl Tryz.underlying25 Tryz.sizeOf28 Tryz.zeroValue28 rfl (by decide) (by decide) rfl rfl rfl rfl rfl) ?_
         refine zt rfl (op_appendArrT rfl 4 (sz := 8) (m := 1) (len := ((eA last op k x (jed op x r (v.l.getD k vz)).1 v.l i) ++ (eIns last op k x i)).length) (cs := _) rfl (.inr ⟨_, rfl⟩) Tryz.underlying25 Tryz.underlying25 Tryz.type28 rfl rfl rfl (by decide) rfl rfl (lflat_len _).symm rfl rfl rfl (by show (((eA last op k x (jed op x r (v.l.getD k vz)).1 v.l i) ++ (eIns last op k x i)).length + 1) * 112 ≤ _; omega) (by omega) rfl) ?_
         refine zg1 ?_
         refine ztN rfl rfl (op_storeO (r := [.int .i64 v.kind, .bool v.b, .bool v.n.neg, .str v.n.digits, .int .i64 v.n.exp, .str v.s, .arr (σ.length + 4) (((eA last op k x (jed op x r (v.l.getD k vz)).1 v.l i) ++ (eIns last op k x i)).length + 1) 8 0 (((eA last op k x (jed op x r (v.l.getD k vz)).1 v.l i) ++ (eIns last op k x i)).length + 1), .sl false 9 (mcells [])]) rfl Tryz.sizeOf25 rfl rfl rfl rfl rfl (by decide)) ?_
         refine zon ?_
         refine AWp_regL ?_
         refine zv3 ?_
         have hE1 : (eA last op k x (jed op x r (v.l.getD k vz)).1 v.l (i + 1)) = ((eA last op k x (jed op x r (v.l.getD k vz)).1 v.l i) ++ (eIns last op k x i)) ++ [a] := by rw [eA, eOld_keep hx hlf hop1]
         refine ⟨i + 1, σ.length + 5, ⟨by omega, fun hl => by rw [hlf] at hl; cases hl⟩, by omega, by simp, ⟨rfl, rfl, rfl, rfl, rfl, rfl, rfl, rfl, rfl, rfl, rfl, trivial⟩, closed_own 5 hcl ?_, ?_, ?_⟩
         ·simp [ownLt, AO.cells, AV.ltL, AV.lt, ltL_append, lflat_lt]
         ·simp [ltE, AV.lt, AV.ltL]
         ·refine (take_own 5).trans ?_
          rw [hE1, lcells_snoc, len_snoc, vcells_eq a]; rfl
       ·rw [h12]; replace h12 := zcl h12
        refine zv3 ?_
        refine AWp_condF rfl ?_
        refine AWp_skip ?_
        refine AWp_regL ?_
        refine zg3 ?_
        refine zt rfl (op_buildSlice [[_, _, _, _, _, _, _, _]] rfl Tryz.underlying25 Tryz.sizeOf28 Tryz.zeroValue28 rfl (by decide) (by decide) rfl rfl rfl rfl rfl) ?_
        refine zt rfl (op_appendArrT rfl 4 (sz := 8) (m := 1) (len := ((eA last op k x (jed op x r (v.l.getD k vz)).1 v.l i) ++ (eIns last op k x i)).length) (cs := _) rfl (.inr ⟨_, rfl⟩) Tryz.underlying25 Tryz.underlying25 Tryz.type28 rfl rfl rfl (by decide) rfl rfl (lflat_len _).symm rfl rfl rfl (by show (((eA last op k x (jed op x r (v.l.getD k vz)).1 v.l i) ++ (eIns last op k x i)).length + 1) * 112 ≤ _; omega) (by omega) rfl) ?_
        refine zg1 ?_
        refine ztN rfl rfl (op_storeO (r := [.int .i64 v.kind, .bool v.b, .bool v.n.neg, .str v.n.digits, .int .i64 v.n.exp, .str v.s, .arr (σ.length + 4) (((eA last op k x (jed op x r (v.l.getD k vz)).1 v.l i) ++ (eIns last op k x i)).length + 1) 8 0 (((eA last op k x (jed op x r (v.l.getD k vz)).1 v.l i) ++ (eIns last op k x i)).length + 1), .sl false 9 (mcells [])]) rfl Tryz.sizeOf25 rfl rfl rfl rfl rfl (by decide)) ?_
        refine zon ?_
        refine AWp_regL ?_
        refine zv3 ?_
        have hE1 : (eA last op k x (jed op x r (v.l.getD k vz)).1 v.l (i + 1)) = ((eA last op k x (jed op x r (v.l.getD k vz)).1 v.l i) ++ (eIns last op k x i)) ++ [a] := by rw [eA, eOld_ne hx (by omega)]
        refine ⟨i + 1, σ.length + 5, ⟨by omega, fun hl hlt => hi2 hl (by omega)⟩, by omega, by simp, ⟨rfl, rfl, rfl, rfl, rfl, rfl, rfl, rfl, rfl, rfl, rfl, trivial⟩, closed_own 5 hcl ?_, ?_, ?_⟩
        ·simp [ownLt, AO.cells, AV.ltL, AV.lt, ltL_append, lflat_lt]
        ·simp [ltE, AV.lt, AV.ltL]
        ·refine (take_own 5).trans ?_
         rw [hE1, lcells_snoc, len_snoc, vcells_eq a]; rfl
    ·(try rw [h4]); replace h4 := zcl h4
     refine AWp_exit ?_
     refine AWp_seq ?_
     have hie : i = v.l.length + 1 := by omega
     subst hie
     refine AWp_freezeInO 3 6 4 (eA last op k x (jed op x r (v.l.getD k vz)).1 v.l (v.l.length + 1)).length 8 (eA last op k x (jed op x r (v.l.getD k vz)).1 v.l (v.l.length + 1)).length rfl rfl rfl (lcells (eA last op k x (jed op x r (v.l.getD k vz)).1 v.l (v.l.length + 1))) rfl (lrow_len _) (lcells_length _) (by decide) ?_
     refine AWp_regL ?_
     refine zv3 ?_
     refine zrt ?_
     rw [jedA_ok hlast hk4 hk hko (fun hl => hi2 hl (by have := hkn.1; omega)), vcells_eq]
     exact RQ_ret (rkvs_cons (rkv_ck rfl rfl rfl) (rkvs_cons (rkv_t rfl) rfl)) hcl (by simp [rks, AV.lt, AV.ltL]) ⟨rfl, rfl⟩
 ·(try rw [h1]); replace h1 := zcl h1
  exact absurd hk4 h1
end Lg
set_option maxRecDepth 20000
set_option maxHeartbeats 4000000
namespace Lg
open Go Go.Proofs Go.RowKit
variable [GLay] 
theorem redit_5 (op : Int) (x : JV) (xs : List AV) (hxs : vcells x = xs) (r : List BL) (ih : ∀ (v : JV) (cs : List AV) (es : List (List AV)) (σ : List AO), vcells v = cs → es = srow r → jb v → ACalls Tryz.prog 16 [.int .i64 op, .agg cs, .sl false 1 es, .agg xs] σ (Ret (.tup [.agg (vcells (jed op x r v).1), .int .i64 (jed op x r v).2]) σ)) (f : Bool) (nm : BL) (v : JV) (cs : List AV) (σ : List AO) (hc : vcells v = cs) (hjb : jb v) (hop : 1 ≤ op ∧ op ≤ 3) (hk4 : ¬ v.kind = 4) : ACalls Tryz.prog 16 [.int .i64 op, .agg cs, .sl f 1 (srow (nm :: r)), .agg xs] σ (Ret (.tup [.agg (vcells (jed op x (nm :: r) v).1), .int .i64 (jed op x (nm :: r) v).2]) σ) := by
 refine ACalls_bodyC Tryz.func16 rfl Tryz.ntmps16 (by rw [Tryz.results16]; exact (.ck Tryz.isAgg28 Tryz.sizeOf28 (.t .nil))) (Nat.le_of_ble_eq_true rfl) (fun hcl hal => ?_)
 subst hc
 obtain ⟨last, hlast⟩ : ∃ b, r.isEmpty = b := ⟨_, rfl⟩
 have hls : decide ((((srow (nm :: r)).length : Nat) : Int) = 1) = last := by rw [← hlast, srow_len, List.length_cons]; cases r <;> simp <;> omega
 obtain ⟨hb1, hb2, hb3, hb4, hb5, hb6⟩ := (jb_eq v).1 hjb
 have hll := lcells_length v.l
 have hml := mcells_length v.m
 have hsl : 1 ≤ (srow (nm :: r)).length := by rw [srow_len, List.length_cons]; omega
 rw [vcells_eq v, ← hxs, vcells_eq x]
 rw [← hxs, vcells_eq x] at ih
 refine zw4 ?_
 refine AWp_seq ?_
 refine zu2 ?_
 refine zt rfl (op_eqlF rfl rfl rfl (by rw [srow_len, List.length_cons]; omega)) ?_
 refine zon ?_
 refine AWp_condF rfl ?_
 refine AWp_skip ?_
 refine zw3 ?_
 refine zw2 ?_
 refine zw2 ?_
 refine zu3 ?_
 rw [hls]
 refine zv1 ?_
 refine AWp_seq ?_
 refine zw3 ?_
 refine AWp_cond rfl (fun h1 => ?_) (fun h1 => ?_)
 ·(try rw [h1]); replace h1 := zcl h1
  exact absurd h1 hk4
 ·(try rw [h1]); replace h1 := zcl h1
  refine AWp_skip ?_
  refine AWp_seq ?_
  refine AWp_drawL #[0, 0, 2, 6, 15, 31, 63, 63, 0, 383, 1023] Tryz.mixed (by decide +kernel) (by decide +kernel) ?_
  refine zp1 ?_
  refine zd1 ?_
  refine yA rfl rfl (fun _ => op_indexAddr rfl Tryz.underlying31 Tryz.sizeOf9 rfl rfl (by omega) (rfl)) ?_
  refine zp1 ?_
  refine yP rfl rfl (zc rfl (rfindQ_c v (ba nm) _ _ (vcells_eq v) hb4)) (trivial) ?_
  rw [vcells_eq (jfD v (ba nm))]
  refine zd3 ?_
  refine yE rfl rfl (zoa) (⟨.inr (by rw [← vcells_eq (jfD v (ba nm))]; exact zc rfl (rfindQ_c v (ba nm) _ _ (vcells_eq v) hb4)), ⟨.inr zoa, ⟨.inr zoa, trivial⟩⟩⟩) (trivial) ?_
  refine yEN rfl rfl rfl (zoa) (⟨.inl rfl, ⟨.inl rfl, ⟨.inl rfl, trivial⟩⟩⟩) (⟨rfl, trivial⟩) ?_
  refine zd1 ?_
  refine RP.nil rfl ?_
  refine AWp_seq ?_
  refine AWp_join (ι := Bool) (fun b => b = decide (¬ v.kind = 5 ∨ (jfB v (ba nm) = false ∧ (¬ op = 1 ∨ last = false)))) (fun b => ⟨[], [(0, .int .i64 op), (2, .sl f 1 (srow (nm :: r))), (5, .ptr (σ.length + 0) 0), (7, .ptr (σ.length + 1) 0), (8, .ptr (σ.length + 2) 0), (9, .int .i64 0), (10, .ptr (σ.length + 3) 0), (11, .bool last), (19, .bool (jfB v (ba nm))), (154, .bool b)]⟩) (fun b => σ ++ [.box [.int .i64 v.kind, .bool v.b, .bool v.n.neg, .str v.n.digits, .int .i64 v.n.exp, .str v.s, .sl false 8 (lcells v.l), .sl false 9 (mcells v.m)], .box [.int .i64 x.kind, .bool x.b, .bool x.n.neg, .str x.n.digits, .int .i64 x.n.exp, .str x.s, .sl false 8 (lcells x.l), .sl false 9 (mcells x.m)], .box [.int .i64 0, .bool false, .bool false, .str ⟨#[]⟩, .int .i64 0, .str ⟨#[]⟩, .nils, .nils], .box [.int .i64 v.kind, .bool v.b, .bool v.n.neg, .str v.n.digits, .int .i64 v.n.exp, .str v.s, .nils, .nils], .box [.int .i64 (jfD v (ba nm)).kind, .bool (jfD v (ba nm)).b, .bool (jfD v (ba nm)).n.neg, .str (jfD v (ba nm)).n.digits, .int .i64 (jfD v (ba nm)).n.exp, .str (jfD v (ba nm)).s, .sl false 8 (lcells (jfD v (ba nm)).l), .sl false 9 (mcells (jfD v (ba nm)).m)]]) ?_ (fun b hj => ?_)
  ·skip
   refine AWp_regL ?_
   refine zg4 ?_
   refine zsp 143 rfl (fun h2 => ?_) fun h2 => ?_
   ·rw [h2]; replace h2 := zcl h2
    refine zg10 ?_
    refine zg1 ?_
    refine zon ?_
    refine ⟨_, ?_, ⟨rfl, rfl, rfl, rfl, rfl, rfl, rfl, rfl, rfl, rfl, rfl, trivial⟩, rfl⟩
    simp_all
   ·rw [h2]; replace h2 := zcl h2
    refine zg3 ?_
    refine zsp 146 rfl (fun h3 => ?_) fun h3 => ?_
    ·rw [h3]; replace h3 := zcl h3
     refine zg3 ?_
     refine zsp 149 rfl (fun h4 => ?_) fun h4 => ?_
     ·rw [h4]; replace h4 := zcl h4
      refine zv5 ?_
      refine ⟨_, ?_, ⟨rfl, rfl, rfl, rfl, rfl, rfl, rfl, rfl, rfl, rfl, rfl, trivial⟩, rfl⟩
      simp_all
     ·rw [h4]; replace h4 := zcl h4
      refine zv5 ?_
      refine ⟨_, ?_, ⟨rfl, rfl, rfl, rfl, rfl, rfl, rfl, rfl, rfl, rfl, rfl, trivial⟩, rfl⟩
      simp_all
    ·rw [h3]; replace h3 := zcl h3
     refine zv8 ?_
     refine ⟨_, ?_, ⟨rfl, rfl, rfl, rfl, rfl, rfl, rfl, rfl, rfl, rfl, rfl, trivial⟩, rfl⟩
     simp_all
  ·skip
   subst hj
   refine AWp_cond rfl (fun h5 => ?_) (fun h5 => ?_)
   ·(try rw [h5]); replace h5 := zcl h5
    refine zw3 ?_
    refine AWp_boxLeO 2 (bs' := [.int .i64 vz.kind, .bool vz.b, .bool vz.n.neg, .str vz.n.digits, .int .i64 vz.n.exp, .str vz.s, .sl false 8 (lcells vz.l), .sl false 9 (mcells vz.m)]) rfl ⟨AVle.refl _, AVle.refl _, AVle.refl _, AVle.refl _, AVle.refl _, AVle.refl _, nilL, nilM, trivial⟩ ?_
    refine zrt ?_
    rw [jedM_no hlast hk4 (by simpa using h5), vcells_eq]
    exact RQ_ret (rkvs_cons (rkv_ck rfl rfl rfl) (rkvs_cons (rkv_t rfl) rfl)) hcl (by simp [rks, AV.lt, AV.ltL]) ⟨rfl, rfl⟩
   ·(try rw [h5]); replace h5 := zcl h5
    refine AWp_skip ?_
    refine AWp_seq ?_
    obtain ⟨hk5, hh⟩ := no5 (by simpa using h5)
    refine AWp_boxLeO 3 (bs' := [.int .i64 v.kind, .bool v.b, .bool v.n.neg, .str v.n.digits, .int .i64 v.n.exp, .str v.s, .sl false 8 (lcells []), .nils]) rfl ⟨AVle.refl _, AVle.refl _, AVle.refl _, AVle.refl _, AVle.refl _, AVle.refl _, nilL, AVle.refl _, trivial⟩ ?_
    refine AWp_ghostInO 3 7 9 5 rfl rfl rfl ?_
    refine AWp_regL ?_
    refine zv1 ?_
    refine AWp_seq ?_
    refine zw1 ?_
    refine AWp_block ?_
    -- loop 0 LIVE 0:param 2:param 5:box 7:box 8:alloc 9:assign 10:alloc 11:assign 20:assign 21:assign
    refine AWp_loop (ι := Nat × Bool × List BJ) (fun z => z.1 ≤ v.m.length ∧ z.2.2 ++ eM last op (ba nm) x (fun y => (jed op x r y).1) (v.m.drop z.1) z.2.1 = eM last op (ba nm) x (fun y => (jed op x r y).1) v.m false ∧ (last = false → ∀ p ∈ v.m.take z.1, p.1 = ba nm → (jed op x r p.2).2 = 0) ∧ z.2.2.length ≤ z.1 + (if z.2.1 = true then 1 else 0)) (fun z => ⟨[], [(0, .int .i64 op), (2, .sl f 1 (srow (nm :: r))), (5, .ptr (σ.length + 0) 0), (7, .ptr (σ.length + 1) 0), (8, .ptr (σ.length + 2) 0), (9, .int .i64 0), (10, .ptr (σ.length + 3) 0), (11, .bool last), (19, .bool (jfB v (ba nm))), (20, .bool z.2.1), (21, .int .i64 (z.1 : Int))]⟩) (fun z => σ ++ [.box [.int .i64 v.kind, .bool v.b, .bool v.n.neg, .str v.n.digits, .int .i64 v.n.exp, .str v.s, .sl false 8 (lcells v.l), .sl false 9 (mcells v.m)], .box [.int .i64 x.kind, .bool x.b, .bool x.n.neg, .str x.n.digits, .int .i64 x.n.exp, .str x.s, .sl false 8 (lcells x.l), .sl false 9 (mcells x.m)], .box [.int .i64 0, .bool false, .bool false, .str ⟨#[]⟩, .int .i64 0, .str ⟨#[]⟩, .nils, .nils], .box [.int .i64 v.kind, .bool v.b, .bool v.n.neg, .str v.n.digits, .int .i64 v.n.exp, .str v.s, .sl false 8 (lcells []), .arr (σ.length + 5) z.2.2.length 9 0 z.2.2.length], .box [.int .i64 (jfD v (ba nm)).kind, .bool (jfD v (ba nm)).b, .bool (jfD v (ba nm)).n.neg, .str (jfD v (ba nm)).n.digits, .int .i64 (jfD v (ba nm)).n.exp, .str (jfD v (ba nm)).s, .sl false 8 (lcells (jfD v (ba nm)).l), .sl false 9 (mcells (jfD v (ba nm)).m)], .arr 9 z.2.2.length (mcells z.2.2).flatten]) (fun z => v.m.length + 1 - z.1) ((0, false, [])) (⟨Nat.zero_le _, rfl, (fun _ p hp => by cases hp), Nat.zero_le _⟩) ?_ rfl (fun z hz => ?_)
    ·exact ⟨rfl, rfl, rfl, rfl, rfl, rfl, rfl, rfl, rfl, rfl, rfl, rfl, trivial⟩
    obtain ⟨i, put, acc⟩ := z
    obtain ⟨hi1, hi2, hi3, hi4⟩ := hz
    simp only at hi1 hi2 hi3 hi4 ⊢
    have hip : acc.length ≤ i + 1 := by split at hi4 <;> omega
    refine AWp_seq ?_
    refine zw5 ?_
    refine AWp_cond rfl (fun h6 => ?_) (fun h6 => ?_)
    ·(try rw [h6]); replace h6 := zcl h6
     refine AWp_skip ?_
     refine AWp_seq ?_
     refine AWp_block ?_
     refine AWp_join (ι := Unit) (fun b => True) (fun b => ⟨[], [(0, .int .i64 op), (2, .sl f 1 (srow (nm :: r))), (5, .ptr (σ.length + 0) 0), (7, .ptr (σ.length + 1) 0), (8, .ptr (σ.length + 2) 0), (9, .int .i64 0), (10, .ptr (σ.length + 3) 0), (11, .bool last), (19, .bool (jfB v (ba nm))), (20, .bool (put || eMh last op (ba nm) put v.m[i]?)), (21, .int .i64 (i : Int))]⟩) (fun b => σ ++ [.box [.int .i64 v.kind, .bool v.b, .bool v.n.neg, .str v.n.digits, .int .i64 v.n.exp, .str v.s, .sl false 8 (lcells v.l), .sl false 9 (mcells v.m)], .box [.int .i64 x.kind, .bool x.b, .bool x.n.neg, .str x.n.digits, .int .i64 x.n.exp, .str x.s, .sl false 8 (lcells x.l), .sl false 9 (mcells x.m)], .box [.int .i64 0, .bool false, .bool false, .str ⟨#[]⟩, .int .i64 0, .str ⟨#[]⟩, .nils, .nils], .box [.int .i64 v.kind, .bool v.b, .bool v.n.neg, .str v.n.digits, .int .i64 v.n.exp, .str v.s, .sl false 8 (lcells []), .arr (σ.length + 5) (acc ++ eMn last op (ba nm) x put v.m[i]?).length 9 0 (acc ++ eMn last op (ba nm) x put v.m[i]?).length], .box [.int .i64 (jfD v (ba nm)).kind, .bool (jfD v (ba nm)).b, .bool (jfD v (ba nm)).n.neg, .str (jfD v (ba nm)).n.digits, .int .i64 (jfD v (ba nm)).n.exp, .str (jfD v (ba nm)).s, .sl false 8 (lcells (jfD v (ba nm)).l), .sl false 9 (mcells (jfD v (ba nm)).m)], .arr 9 (acc ++ eMn last op (ba nm) x put v.m[i]?).length (mcells (acc ++ eMn last op (ba nm) x put v.m[i]?)).flatten]) ?_ (fun b hj => ?_)
     ·skip
      refine zu2 ?_
      refine zsp 164 rfl (fun h7 => ?_) fun h7 => ?_
      ·rw [h7]; replace h7 := zcl h7
       subst h7
       refine zg4 ?_
       refine zsp 168 rfl (fun h8 => ?_) fun h8 => ?_
       ·rw [h8]; replace h8 := zcl h8
        refine zv3 ?_
        refine AWp_cond rfl (fun h9 => ?_) (fun h9 => ?_)
        ·(try rw [h9]); replace h9 := zcl h9
         refine zw5 ?_
         refine AWp_cond rfl (fun h10 => ?_) (fun h10 => ?_)
         ·(try rw [h10]); replace h10 := zcl h10
          refine AWp_seq ?_
          refine AWp_drawL #[0, 1, 0, 4, 12, 0, 60, 124, 255, 511, 1023] Tryz.mixed (by decide +kernel) (by decide +kernel) ?_
          refine zd1 ?_
          refine zp1 ?_
          refine zd1 ?_
          refine yA rfl rfl (fun _ => op_indexAddr rfl Tryz.underlying31 Tryz.sizeOf9 rfl rfl (by omega) (rfl)) ?_
          refine zp2 ?_
          refine zd1 ?_
          refine yA rfl rfl (fun _ => op_buildSlice [[_, _, _, _, _, _, _, _, _]] rfl Tryz.underlying26 Tryz.sizeOf64 Tryz.zeroValue64 rfl (by decide) (by decide) rfl rfl rfl rfl rfl) ?_
          refine yE rfl rfl (op_appendArrT rfl 5 (sz := 9) (m := 1) (len := acc.length) (cs := _) rfl (.inr ⟨_, rfl⟩) Tryz.underlying26 Tryz.underlying26 Tryz.type64 rfl rfl rfl (by decide) rfl rfl (mflat_len _).symm rfl rfl rfl (by show (acc.length + 1) * 128 ≤ _; omega) (by omega) rfl) (⟨.inl rfl, ⟨.inl rfl, ⟨.inl rfl, trivial⟩⟩⟩) (trivial) ?_
          refine zd1 ?_
          refine yEN rfl rfl rfl (op_storeO (r := [.int .i64 v.kind, .bool v.b, .bool v.n.neg, .str v.n.digits, .int .i64 v.n.exp, .str v.s, .sl false 8 (lcells []), .arr (σ.length + 5) (acc.length + 1) 9 0 (acc.length + 1)]) rfl Tryz.sizeOf26 rfl rfl rfl rfl rfl (by decide)) (⟨.inl rfl, ⟨.inl rfl, ⟨.inl rfl, trivial⟩⟩⟩) (⟨rfl, trivial⟩) ?_
          refine RP.nil rfl ?_
          refine AWp_regL ?_
          refine zv1 ?_
          have he : eMh true op (ba nm) put v.m[i]? = true := eMh_end (List.getElem?_eq_none (by omega)) rfl h8 (by simpa using h9)
          obtain ⟨e1, e2⟩ := eMn_y (x := x) he
          refine ⟨(), trivial, ⟨rfl, rfl, rfl, rfl, rfl, rfl, rfl, rfl, rfl, rfl, by rw [e2]; rfl, rfl, trivial⟩, ?_⟩
          rw [e1, mcells_snoc, len_snoc, mrow, vcells_eq x]; rfl
         ·(try rw [h10]); replace h10 := zcl h10
          obtain ⟨q, hq⟩ : ∃ q, v.m[i]? = some q := ⟨_, List.getElem?_eq_getElem (show i < v.m.length by omega)⟩
          refine AWp_seq ?_
          refine AWp_drawL #[0, 1, 0, 7, 15, 31, 0, 64, 192, 511] Tryz.mixed (by decide +kernel) (by decide +kernel) ?_
          refine zd1 ?_
          refine zp1 ?_
          refine zd3 ?_
          refine zp1 ?_
          refine zd1 ?_
          refine yA rfl rfl (fun _ => op_indexAddr rfl Tryz.underlying31 Tryz.sizeOf9 rfl rfl (by omega) (rfl)) ?_
          refine zp1 ?_
          refine zd1 ?_
          refine RP.nil rfl ?_
          refine AWp_cond rfl (fun h11 => ?_) (fun h11 => ?_)
          ·(try rw [h11]); replace h11 := zcl h11
           refine AWp_seq ?_
           refine AWp_drawL #[0, 1, 0, 4, 12, 0, 60, 124, 255, 511, 1023] Tryz.mixed (by decide +kernel) (by decide +kernel) ?_
           refine zd1 ?_
           refine zp1 ?_
           refine zd1 ?_
           refine yA rfl rfl (fun _ => op_indexAddr rfl Tryz.underlying31 Tryz.sizeOf9 rfl rfl (by omega) (rfl)) ?_
           refine zp2 ?_
           refine zd1 ?_
           refine yA rfl rfl (fun _ => op_buildSlice [[_, _, _, _, _, _, _, _, _]] rfl Tryz.underlying26 Tryz.sizeOf64 Tryz.zeroValue64 rfl (by decide) (by decide) rfl rfl rfl rfl rfl) ?_
           refine yE rfl rfl (op_appendArrT rfl 5 (sz := 9) (m := 1) (len := acc.length) (cs := _) rfl (.inr ⟨_, rfl⟩) Tryz.underlying26 Tryz.underlying26 Tryz.type64 rfl rfl rfl (by decide) rfl rfl (mflat_len _).symm rfl rfl rfl (by show (acc.length + 1) * 128 ≤ _; omega) (by omega) rfl) (⟨.inl rfl, ⟨.inl rfl, ⟨.inl rfl, trivial⟩⟩⟩) (trivial) ?_
           refine zd1 ?_
           refine yEN rfl rfl rfl (op_storeO (r := [.int .i64 v.kind, .bool v.b, .bool v.n.neg, .str v.n.digits, .int .i64 v.n.exp, .str v.s, .sl false 8 (lcells []), .arr (σ.length + 5) (acc.length + 1) 9 0 (acc.length + 1)]) rfl Tryz.sizeOf26 rfl rfl rfl rfl rfl (by decide)) (⟨.inl rfl, ⟨.inl rfl, ⟨.inl rfl, trivial⟩⟩⟩) (⟨rfl, trivial⟩) ?_
           refine RP.nil rfl ?_
           refine AWp_regL ?_
           refine zv1 ?_
           have he : eMh true op (ba nm) put v.m[i]? = true := (eMh_at hq rfl h8 (by simpa using h9)).trans (by simpa using h11)
           obtain ⟨e1, e2⟩ := eMn_y (x := x) he
           refine ⟨(), trivial, ⟨rfl, rfl, rfl, rfl, rfl, rfl, rfl, rfl, rfl, rfl, by rw [e2]; rfl, rfl, trivial⟩, ?_⟩
           rw [e1, mcells_snoc, len_snoc, mrow, vcells_eq x]; rfl
          ·(try rw [h11]); replace h11 := zcl h11
           refine AWp_skip ?_
           have he : eMh true op (ba nm) put v.m[i]? = false := (eMh_at hq rfl h8 (by simpa using h9)).trans (by simpa using h11)
           obtain ⟨e1, e2⟩ := eMn_n (x := x) he
           refine ⟨(), trivial, ⟨rfl, rfl, rfl, rfl, rfl, rfl, rfl, rfl, rfl, rfl, by rw [e2]; rfl, rfl, trivial⟩, ?_⟩
           rw [e1, List.append_nil]
        ·(try rw [h9]); replace h9 := zcl h9
         refine AWp_skip ?_
         have he : eMh true op (ba nm) put v.m[i]? = false := eMh_no (.inr (.inr (by simpa using h9)))
         obtain ⟨e1, e2⟩ := eMn_n (x := x) he
         refine ⟨(), trivial, ⟨rfl, rfl, rfl, rfl, rfl, rfl, rfl, rfl, rfl, rfl, by rw [e2]; rfl, rfl, trivial⟩, ?_⟩
         rw [e1, List.append_nil]
       ·rw [h8]; replace h8 := zcl h8
        refine zv3 ?_
        refine AWp_condF rfl ?_
        refine AWp_skip ?_
        have he : eMh true op (ba nm) put v.m[i]? = false := eMh_no (.inr (.inl h8))
        obtain ⟨e1, e2⟩ := eMn_n (x := x) he
        refine ⟨(), trivial, ⟨rfl, rfl, rfl, rfl, rfl, rfl, rfl, rfl, rfl, rfl, by rw [e2]; rfl, rfl, trivial⟩, ?_⟩
        rw [e1, List.append_nil]
      ·rw [h7]; replace h7 := zcl h7
       subst h7
       refine zv7 ?_
       refine AWp_condF rfl ?_
       refine AWp_skip ?_
       have he : eMh false op (ba nm) put v.m[i]? = false := eMh_no (.inl rfl)
       obtain ⟨e1, e2⟩ := eMn_n (x := x) he
       refine ⟨(), trivial, ⟨rfl, rfl, rfl, rfl, rfl, rfl, rfl, rfl, rfl, rfl, by rw [e2]; rfl, rfl, trivial⟩, ?_⟩
       rw [e1, List.append_nil]
     ·skip
      have hbd := eMn_bd (last := last) (op := op) (key := ba nm) (x := x) (put := put) v.m[i]?
      have hlen : (acc ++ eMn last op (ba nm) x put v.m[i]?).length = acc.length + (eMn last op (ba nm) x put v.m[i]?).length := List.length_append
      have hB : (acc ++ eMn last op (ba nm) x put v.m[i]?).length ≤ i + (if (put || eMh last op (ba nm) put v.m[i]?) = true then 1 else 0) := by omega
      have hB1 : (acc ++ eMn last op (ba nm) x put v.m[i]?).length ≤ i + 1 := by split at hB <;> omega
      clear hbd hlen
      refine AWp_seq ?_
      refine zw5 ?_
      refine AWp_cond rfl (fun h12 => ?_) (fun h12 => ?_)
      ·(try rw [h12]); replace h12 := zcl h12
       refine AWp_exit ?_
       refine AWp_seq ?_
       have hin : v.m[i]? = none := List.getElem?_eq_none (by omega)
       have hMM : (acc ++ eMn last op (ba nm) x put v.m[i]?) = eM last op (ba nm) x (fun y => (jed op x r y).1) v.m false := by rw [← hi2, eM_end hin]
       refine AWp_freezeInO 3 7 5 (acc ++ eMn last op (ba nm) x put v.m[i]?).length 9 (acc ++ eMn last op (ba nm) x put v.m[i]?).length rfl rfl rfl (mcells (acc ++ eMn last op (ba nm) x put v.m[i]?)) rfl (mrows_len _) (mcells_length _) (by decide) ?_
       refine AWp_regL ?_
       refine zv3 ?_
       refine zrt ?_
       rw [jedM_ok hlast hk4 hk5 hh (eBad_all (fun hl p hp hk => hi3 hl p (by rw [List.take_of_length_le (by omega)]; exact hp) hk)), ← hMM, vcells_eq]
       exact RQ_ret (rkvs_cons (rkv_ck rfl rfl rfl) (rkvs_cons (rkv_t rfl) rfl)) hcl (by simp [rks, AV.lt, AV.ltL]) ⟨rfl, rfl⟩
      ·(try rw [h12]); replace h12 := zcl h12
       obtain ⟨q, hq⟩ : ∃ q, v.m[i]? = some q := ⟨_, List.getElem?_eq_getElem (show i < v.m.length by omega)⟩
       refine AWp_skip ?_
       refine zu4 ?_
       rw [vcells_eq q.2]
       refine zv3 ?_
       refine AWp_seq ?_
       refine AWp_seq ?_
       refine AWp_drawL #[0, 1, 0, 4, 12, 31] Tryz.mixed (by decide +kernel) (by decide +kernel) ?_
       refine zd1 ?_
       refine zp1 ?_
       refine zd1 ?_
       refine yA rfl rfl (fun _ => op_indexAddr rfl Tryz.underlying31 Tryz.sizeOf9 rfl rfl (by omega) (rfl)) ?_
       refine zp1 ?_
       refine zd1 ?_
       refine RP.nil rfl ?_
       refine AWp_cond rfl (fun h13 => ?_) (fun h13 => ?_)
       ·(try rw [h13]); replace h13 := zcl h13
        refine AWp_seq ?_
        refine zw1 ?_
        refine AWp_cond rfl (fun h14 => ?_) (fun h14 => ?_)
        ·(try rw [h14]); replace h14 := zcl h14
         subst h14
         refine AWp_exit ?_
         refine AWp_regL ?_
         refine zv3 ?_
         refine ⟨(i + 1, (put || eMh true op (ba nm) put v.m[i]?), (acc ++ eMn true op (ba nm) x put v.m[i]?)), σ.length + 6, ⟨by simp only; omega, ?_, ?_, ?_⟩, by simp only; omega, by simp, ⟨rfl, rfl, rfl, rfl, rfl, rfl, rfl, rfl, rfl, rfl, rfl, rfl, trivial⟩, closed_own 6 hcl ?_, ?_, ?_⟩
         ·simp only; rw [← hi2, eM_step hq, if_pos h13, if_pos rfl]; simp
         ·intro hl; cases hl
         ·simp only []; omega
         ·simp [ownLt, AO.cells, AV.ltL, AV.lt, ltL_append, mflat_lt]
         ·simp [ltE, AV.lt, AV.ltL]
         ·refine (take_own 6).trans ?_
          rfl
        ·(try rw [h14]); replace h14 := zcl h14
         subst h14
         refine AWp_skip ?_
         refine AWp_seq ?_
         refine AWp_drawL #[0, 0, 2, 0, 8, 0, 63, 127, 255, 255, 0, 1535, 4095] Tryz.mixed (by decide +kernel) (by decide +kernel) ?_
         refine zd2 ?_
         refine zp1 ?_
         refine zd1 ?_
         refine yA rfl rfl (fun _ => (by first | exact op_sliceSl _ _ rfl Tryz.underlying31 Tryz.sizeOf9 rfl (by first | exact ⟨_, rfl⟩ | rfl) (by first | exact ⟨_, rfl⟩ | rfl) (by omega) (by omega) (by omega) | exact op_sliceArr _ _ rfl Tryz.underlying31 Tryz.sizeOf9 rfl GET (by first | exact ⟨_, rfl⟩ | rfl) (by first | exact ⟨_, rfl⟩ | rfl) (by omega) (by omega) (by omega))) ?_
         refine zp1 ?_
         refine yP rfl rfl (zc rfl (ih q.2 _ _ _ (vcells_eq q.2) (srow_tail nm r) (mb_get hb6 hq).2)) (trivial) ?_
         rw [vcells_eq (jed op x r q.2).1]
         refine zd3 ?_
         refine yE rfl rfl (zoa) (⟨.inr (by rw [← vcells_eq (jed op x r q.2).1]; exact zc rfl (ih q.2 _ _ _ (vcells_eq q.2) (srow_tail nm r) (mb_get hb6 hq).2)), ⟨.inr zoa, ⟨.inr zoa, trivial⟩⟩⟩) (trivial) ?_
         refine yEN rfl rfl rfl (zoa) (⟨.inl rfl, ⟨.inl rfl, ⟨.inl rfl, trivial⟩⟩⟩) (⟨rfl, trivial⟩) ?_
         refine zd1 ?_
         refine RP.nil rfl ?_
         refine AWp_seq ?_
         refine zw2 ?_
         refine AWp_cond rfl (fun h15 => ?_) (fun h15 => ?_)
         ·(try rw [h15]); replace h15 := zcl h15
          refine zw4 ?_
          refine AWp_boxLeO 2 (bs' := [.int .i64 vz.kind, .bool vz.b, .bool vz.n.neg, .str vz.n.digits, .int .i64 vz.n.exp, .str vz.s, .sl false 8 (lcells vz.l), .sl false 9 (mcells vz.m)]) rfl ⟨AVle.refl _, AVle.refl _, AVle.refl _, AVle.refl _, AVle.refl _, AVle.refl _, nilL, nilM, trivial⟩ ?_
          refine zrt ?_
          rw [jedM_bad hlast hk4 hk5 hh (eBad_at (g := fun y => (jed op x r y).2) hq (hi3 rfl) h13 h15) h15, vcells_eq]
          exact RQ_ret (rkvs_cons (rkv_ck rfl rfl rfl) (rkvs_cons (rkv_t rfl) rfl)) hcl (by simp [rks, AV.lt, AV.ltL]) ⟨rfl, rfl⟩
         ·(try rw [h15]); replace h15 := zcl h15
          refine AWp_skip ?_
          refine AWp_regL ?_
          refine zv3 ?_
          refine AWp_regL ?_
          refine zg3 ?_
          refine zt rfl (op_buildSlice [[_, _, _, _, _, _, _, _, _]] rfl Tryz.underlying26 Tryz.sizeOf64 Tryz.zeroValue64 rfl (by decide) (by decide) rfl rfl rfl rfl rfl) ?_
          refine zt rfl ((by first | exact op_appendArrT rfl 5 (sz := 9) (m := 1) (len := (acc ++ eMn last op (ba nm) x put v.m[i]?).length) (cs := _) rfl (.inr ⟨_, rfl⟩) Tryz.underlying26 Tryz.underlying26 Tryz.type64 rfl rfl rfl (by decide) rfl rfl (mflat_len _).symm rfl rfl rfl (by show ((acc ++ eMn last op (ba nm) x put v.m[i]?).length + 1) * 128 ≤ _; omega) (by omega) rfl | exact op_appendArrT rfl 5 (sz := 9) (m := 1) (len := (acc ++ eMn false op (ba nm) x put v.m[i]?).length) (cs := _) rfl (.inr ⟨_, rfl⟩) Tryz.underlying26 Tryz.underlying26 Tryz.type64 rfl rfl rfl (by decide) rfl rfl (mflat_len _).symm rfl rfl rfl (by show ((acc ++ eMn false op (ba nm) x put v.m[i]?).length + 1) * 128 ≤ _; omega) (by omega) rfl)) ?_
          refine zg1 ?_
          refine ztN rfl rfl ((by first | exact op_storeO (r := [.int .i64 v.kind, .bool v.b, .bool v.n.neg, .str v.n.digits, .int .i64 v.n.exp, .str v.s, .sl false 8 (lcells []), .arr (σ.length + 5) ((acc ++ eMn last op (ba nm) x put v.m[i]?).length + 1) 9 0 ((acc ++ eMn last op (ba nm) x put v.m[i]?).length + 1)]) rfl Tryz.sizeOf26 rfl rfl rfl rfl rfl (by decide) | exact op_storeO (r := [.int .i64 v.kind, .bool v.b, .bool v.n.neg, .str v.n.digits, .int .i64 v.n.exp, .str v.s, .sl false 8 (lcells []), .arr (σ.length + 5) ((acc ++ eMn false op (ba nm) x put v.m[i]?).length + 1) 9 0 ((acc ++ eMn false op (ba nm) x put v.m[i]?).length + 1)]) rfl Tryz.sizeOf26 rfl rfl rfl rfl rfl (by decide))) ?_
          refine zon ?_
          refine AWp_regL ?_
          refine zv3 ?_
          refine ⟨(i + 1, (put || eMh false op (ba nm) put v.m[i]?), (acc ++ eMn false op (ba nm) x put v.m[i]?) ++ [(q.1, (jed op x r q.2).1)]), σ.length + 6, ⟨by simp only; omega, ?_, ?_, ?_⟩, by simp only; omega, by simp, ⟨rfl, rfl, rfl, rfl, rfl, rfl, rfl, rfl, rfl, rfl, rfl, rfl, trivial⟩, closed_own 6 hcl ?_, ?_, ?_⟩
          ·simp only; rw [← hi2, eM_step hq, if_pos h13, if_neg (by decide)]; simp
          ·intro hl p hp hk
           rcases mem_take_succ hq hp with hp | rfl
           ·exact hi3 rfl p hp hk
           ·exact h15
          ·simp only [len_snoc]; omega
          ·simp [ownLt, AO.cells, AV.ltL, AV.lt, ltL_append, mflat_lt]
          ·simp [ltE, AV.lt, AV.ltL]
          ·refine (take_own 6).trans ?_
           simp only; rw [mcells_snoc, len_snoc, mrow, vcells_eq (jed op x r q.2).1]; rfl
       ·(try rw [h13]); replace h13 := zcl h13
        refine AWp_skip ?_
        refine AWp_regL ?_
        refine zg3 ?_
        refine zt rfl (op_buildSlice [[_, _, _, _, _, _, _, _, _]] rfl Tryz.underlying26 Tryz.sizeOf64 Tryz.zeroValue64 rfl (by decide) (by decide) rfl rfl rfl rfl rfl) ?_
        refine zt rfl ((by first | exact op_appendArrT rfl 5 (sz := 9) (m := 1) (len := (acc ++ eMn last op (ba nm) x put v.m[i]?).length) (cs := _) rfl (.inr ⟨_, rfl⟩) Tryz.underlying26 Tryz.underlying26 Tryz.type64 rfl rfl rfl (by decide) rfl rfl (mflat_len _).symm rfl rfl rfl (by show ((acc ++ eMn last op (ba nm) x put v.m[i]?).length + 1) * 128 ≤ _; omega) (by omega) rfl | exact op_appendArrT rfl 5 (sz := 9) (m := 1) (len := (acc ++ eMn false op (ba nm) x put v.m[i]?).length) (cs := _) rfl (.inr ⟨_, rfl⟩) Tryz.underlying26 Tryz.underlying26 Tryz.type64 rfl rfl rfl (by decide) rfl rfl (mflat_len _).symm rfl rfl rfl (by show ((acc ++ eMn false op (ba nm) x put v.m[i]?).length + 1) * 128 ≤ _; omega) (by omega) rfl)) ?_
        refine zg1 ?_
        refine ztN rfl rfl ((by first | exact op_storeO (r := [.int .i64 v.kind, .bool v.b, .bool v.n.neg, .str v.n.digits, .int .i64 v.n.exp, .str v.s, .sl false 8 (lcells []), .arr (σ.length + 5) ((acc ++ eMn last op (ba nm) x put v.m[i]?).length + 1) 9 0 ((acc ++ eMn last op (ba nm) x put v.m[i]?).length + 1)]) rfl Tryz.sizeOf26 rfl rfl rfl rfl rfl (by decide) | exact op_storeO (r := [.int .i64 v.kind, .bool v.b, .bool v.n.neg, .str v.n.digits, .int .i64 v.n.exp, .str v.s, .sl false 8 (lcells []), .arr (σ.length + 5) ((acc ++ eMn false op (ba nm) x put v.m[i]?).length + 1) 9 0 ((acc ++ eMn false op (ba nm) x put v.m[i]?).length + 1)]) rfl Tryz.sizeOf26 rfl rfl rfl rfl rfl (by decide))) ?_
        refine zon ?_
        refine AWp_regL ?_
        refine zv3 ?_
        refine ⟨(i + 1, (put || eMh last op (ba nm) put v.m[i]?), (acc ++ eMn last op (ba nm) x put v.m[i]?) ++ [q]), σ.length + 6, ⟨by simp only; omega, ?_, ?_, ?_⟩, by simp only; omega, by simp, ⟨rfl, rfl, rfl, rfl, rfl, rfl, rfl, rfl, rfl, rfl, rfl, rfl, trivial⟩, closed_own 6 hcl ?_, ?_, ?_⟩
        ·simp only; rw [← hi2, eM_step hq, if_neg h13]; simp
        ·intro hl p hp hk
         rcases mem_take_succ hq hp with hp | rfl
         ·exact hi3 hl p hp hk
         ·exact absurd hk h13
        ·simp only [len_snoc]; omega
        ·simp [ownLt, AO.cells, AV.ltL, AV.lt, ltL_append, mflat_lt]
        ·simp [ltE, AV.lt, AV.ltL]
        ·refine (take_own 6).trans ?_
         simp only; rw [mcells_snoc, len_snoc, mrow, vcells_eq q.2]; rfl
    ·(try rw [h6]); replace h6 := zcl h6
     exfalso; omega
end Lg
namespace Lg
open Go
/-! ### Two objects of the caller's that are written -/
section
variable {σ : List AO} {p q : Nat} {x y : AO}
end
section
variable [GLay]
variable {σ : List AO} {p q : Nat} {x y : AO}
end
section
variable [GLay]
/-- What Look asks of what was seen, of the trees, and of the heap. -/
structure SP (v : JV) (id deep frm nw lst : Int) (M : List (Int × AV)) (p q : Nat) (σ : List AO) : Prop where
  hp : σ[p]? = some (.box [.mapv q, .int .i64 frm, .int .i64 nw, .int .i64 lst])
  hq : σ[q]? = some (.map (imap M))
  key : ∀ a ∈ M, a.1 < id
  ml : ∀ k, ∀ a ∈ M, a.2.lt k
  len : (M.length : Int) + jsize v ≤ 20000
  d0 : 0 ≤ deep
  dd : deep + jdepth v ≤ 40
  i0 : 0 ≤ id
  ib : id + jsize v ≤ 1000000000
  f : frm ≤ id
  n0 : 0 ≤ nw
  nb : nw + jsize v ≤ 1000000
def spost (σ : List AO) (p q : Nat) (v : JV) (id frm nw lst : Int) (M : List (Int × AV)) : List AO :=
  (σ.set p (.box [.mapv q, .int .i64 frm, .int .i64 (nw + jsize v), .int .i64 (max lst (id + jsize v - 1))])).set q (.map (imap (M ++ seenV v id)))
theorem SP.ne {v : JV} {id deep frm nw lst : Int} {M : List (Int × AV)} {p q : Nat} {σ : List AO} (h : SP v id deep frm nw lst M p q σ) : p ≠ q := fun e => by
  have h1 := h.hp; have h2 := h.hq
  rw [e, h2] at h1; cases h1
theorem SP.none {v : JV} {id deep frm nw lst : Int} {M : List (Int × AV)} {p q : Nat} {σ : List AO} (h : SP v id deep frm nw lst M p q σ) (K : List JV) : iget (M ++ seenL K (id + 1)) id = none :=
  iget_none fun a ha e => by
    rcases List.mem_append.1 ha with ha | ha
    · have := h.key a ha; omega
    · have := seenL_key _ _ a ha; omega
theorem SP.below {v : JV} {id deep frm nw lst : Int} {M : List (Int × AV)} {p q : Nat} {σ : List AO} (h : SP v id deep frm nw lst M p q σ) (K : List JV) : ∀ a ∈ M ++ seenL K (id + 1), a.1 < id + 1 + lsize K := fun a ha => by
  have := lsize_nn K
  rcases List.mem_append.1 ha with ha | ha
  · have := h.key a ha; omega
  · have := seenL_key _ _ a ha; omega
theorem SP.lt {v : JV} {id deep frm nw lst : Int} {M : List (Int × AV)} {p q : Nat} {σ : List AO} (h : SP v id deep frm nw lst M p q σ) (k : Nat) (K : List JV) : AV.ltL k (mflat (imap (M ++ seenL K (id + 1)))) :=
  imap_lt k _ fun a ha => by
    rcases List.mem_append.1 ha with ha | ha
    · exact h.ml k a ha
    · exact seenL_lt k _ _ a ha
end
end Lg
namespace Lg
open Go
def ex16 : ByteArray := ⟨#[91, 49, 93]⟩
section
variable [GLay] {P : Program} {σ l : List AO} {e : Env} {o : Oper} {f : FuncId} {args : List AV} {v : AV} {x y : AO}
end
end Lg
namespace Lg
open Go
/-! ### The reference's lists, plainly -/
section
variable {last : Bool} {op : Int} {k : Nat} {x y : JV} {l : List JV}
theorem eA_pre (hk : k ≤ l.length) : ∀ i, i ≤ k → eA last op k x y l i = l.take i
  | 0, _ => by simp [eA]
  | i + 1, h => by
    have hx : l[i]? = some l[i] := List.getElem?_eq_getElem (by omega)
    rw [eA, eA_pre hk i (by omega), eIns_n (by rintro ⟨h1, _, _⟩; omega), eOld_ne hx (by omega), List.append_nil, ltake_succ hx]
theorem eA_post (hk : k < l.length) : ∀ d, k + 1 + d ≤ l.length → eA last op k x y l (k + 1 + d) = eA last op k x y l (k + 1) ++ (l.drop (k + 1)).take d
  | 0, _ => by simp
  | d + 1, h => by
    have hx : l[k + 1 + d]? = some l[k + 1 + d] := List.getElem?_eq_getElem (by omega)
    have hx2 : (l.drop (k + 1))[d]? = some l[k + 1 + d] := by rw [List.getElem?_drop]; exact hx
    rw [show k + 1 + (d + 1) = (k + 1 + d) + 1 by omega, eA, eA_post hk d (by omega), eIns_n (by rintro ⟨h1, _, _⟩; omega), eOld_ne hx (by omega), List.append_nil, ltake_succ hx2, List.append_assoc]
theorem eA_all (hk : k < l.length) : eA last op k x y l (l.length + 1) = l.take k ++ (eIns last op k x k ++ eOld last op k y l k) ++ l.drop (k + 1) := by
  have h := eA_post (last := last) (op := op) (x := x) (y := y) hk (l.length - (k + 1)) (by omega)
  rw [show k + 1 + (l.length - (k + 1)) = l.length by omega, List.take_of_length_le (by simp)] at h
  rw [eA, eIns_n (by rintro ⟨h1, _, _⟩; omega), eOld_end (List.getElem?_eq_none (Nat.le_refl _)), List.append_nil, List.append_nil, h, eA, eA_pre (by omega) k (Nat.le_refl _), List.append_assoc (l.take k)]
theorem eA_set (hk : k < l.length) : eA false op k x y l (l.length + 1) = l.set k y := by
  rw [eA_all hk, eIns_n (by rintro ⟨_, h, _⟩; cases h), eOld_ed (List.getElem?_eq_getElem hk) rfl rfl, List.set_eq_take_append_cons_drop, if_pos hk]; simp
theorem eA_ins (hk : k ≤ l.length) : eA true 1 k x y l (l.length + 1) = l.take k ++ x :: l.drop k := by
  by_cases h : k = l.length
  · subst h
    rw [eA, eA_pre (Nat.le_refl _) _ (Nat.le_refl _), eIns_y ⟨rfl, rfl, by decide⟩, eOld_end (List.getElem?_eq_none (Nat.le_refl _))]; simp
  · have hk' : k < l.length := by omega
    rw [eA_all hk', eIns_y ⟨rfl, rfl, by decide⟩, eOld_keep (List.getElem?_eq_getElem hk') rfl rfl, List.drop_eq_getElem_cons hk']; simp
theorem eA_del (hk : k < l.length) : eA true 2 k x y l (l.length + 1) = l.take k ++ l.drop (k + 1) := by
  rw [eA_all hk, eIns_n (by rintro ⟨_, _, h⟩; exact h rfl), eOld_del rfl rfl (by decide)]; simp
theorem eA_rep (hk : k < l.length) : eA true 3 k x y l (l.length + 1) = l.set k x := by
  rw [eA_all hk, eIns_y ⟨rfl, rfl, by decide⟩, eOld_del rfl rfl (by decide), List.set_eq_take_append_cons_drop, if_pos hk]; simp
end
section
variable [GLay] {last : Bool} {op : Int} {key : ByteArray} {x : JV} {f : JV → JV}
theorem blt_ne {a b : ByteArray} (h : blt a b = true) : ¬ a = b := fun e => by subst e; rw [blt_irr] at h; cases h
theorem blt_asym {a b : ByteArray} (h : blt a b = true) : blt b a = false := blt_le (by rw [h]; rfl)
/-- All members behind the key's place. -/
theorem eM_above : ∀ (m : List BJ) (put : Bool), (∀ q ∈ m, blt key q.1 = true) → eM last op key x f m put = (if (last && decide (op ≠ 2) && !put) = true then [(key, x)] else []) ++ m
  | [], put, _ => by rw [eM, List.append_nil]
  | q :: r, put, h => by
    have hq := h q (List.mem_cons_self ..)
    have hi : eMi last op key q.1 put = (last && decide (op ≠ 2) && !put) := by unfold eMi; rw [blt_asym hq]; simp
    have hr : (last && decide (op ≠ 2) && !(put || eMi last op key q.1 put)) = false := by rw [hi]; cases last <;> cases put <;> simp
    have hne : ¬ q.1 = key := fun e => blt_ne hq e.symm
    rw [eM, eM_above r _ (fun p hp => h p (List.mem_cons_of_mem _ hp)), hr, if_neg hne, hi]
    simp
theorem rinsK_cons (q : BJ) (r : List BJ) : rinsK (q :: r) key = if blt q.1 key = true then rinsK r key + 1 else 0 := by
  unfold rinsK; rw [List.takeWhile_cons]; split <;> simp
theorem fnd_cons (q : BJ) (r : List BJ) : fnd (q :: r) key = if blt q.1 key = true then fnd r key else decide (q.1 = key) := by
  unfold fnd; rw [rinsK_cons]
  by_cases h : blt q.1 key = true
  · rw [if_pos h, if_pos h]; rfl
  · rw [if_neg h, if_neg h]; rfl
theorem blt_tri {a b : ByteArray} (h1 : ¬ blt a b = true) (h2 : ¬ a = b) : blt b a = true := blt_gt (by simp [h1, h2])
/-- The members in their order: what the reference makes of them. -/
theorem eM_sort : ∀ (m : List BJ), msorted m → eM last op key x f m false = m.take (rinsK m key) ++ ((if last = true then (if op = 2 then [] else [(key, x)]) else match (if fnd m key = true then m[rinsK m key]? else none) with | some q => [(q.1, f q.2)] | none => []) ++ m.drop (rinsK m key + (if fnd m key = true then 1 else 0)))
  | [], _ => by
    rw [eM]
    cases last <;> by_cases h : op = 2 <;> simp [h, fnd, rinsK]
  | q :: r, hs => by
    have hs' : msorted r := (List.pairwise_cons.1 hs).2
    have hall := (List.pairwise_cons.1 hs).1
    by_cases hb : blt q.1 key = true
    · have hi : eMi last op key q.1 false = false := by unfold eMi; rw [hb]; simp
      rw [eM, hi, if_neg (by simp), if_neg (blt_ne hb), Bool.or_false, eM_sort r hs', rinsK_cons, if_pos hb, fnd_cons, if_pos hb, show rinsK r key + 1 + (if fnd r key = true then 1 else 0) = (rinsK r key + (if fnd r key = true then 1 else 0)) + 1 by omega]
      rfl
    · rw [rinsK_cons, if_neg hb, fnd_cons, if_neg hb]
      have hi : eMi last op key q.1 false = (last && decide (op ≠ 2)) := by unfold eMi; simp [hb]
      by_cases hq : q.1 = key
      · have hab : ∀ p ∈ r, blt key p.1 = true := fun p hp => hq ▸ hall p hp
        rw [eM, eM_above r _ hab, hi, if_pos hq]
        cases last <;> by_cases h : op = 2 <;> simp [h, hq]
      · have hlt := blt_tri hb hq
        have hab : ∀ p ∈ q :: r, blt key p.1 = true := fun p hp => by
          rcases List.mem_cons.1 hp with rfl | hp
          · exact hlt
          · exact blt_trans hlt (hall p hp)
        rw [eM_above _ _ hab]
        cases last <;> by_cases h : op = 2 <;> simp [h, hq]
end
end Lg
namespace Lg
open Go
variable [GLay]
def eC (b : Bool) : Int := if b = true then 0 else 6
theorem find_sort {key : ByteArray} : ∀ (m : List BJ), msorted m → m.find? (fun q => decide (q.1 = key)) = if fnd m key = true then m[rinsK m key]? else none
  | [], _ => by simp [fnd]
  | q :: r, hs => by
    have hs' : msorted r := (List.pairwise_cons.1 hs).2
    have hall := (List.pairwise_cons.1 hs).1
    rw [rinsK_cons, fnd_cons]
    by_cases hb : blt q.1 key = true
    · rw [if_pos hb, if_pos hb, List.find?_cons_of_neg (by simp [blt_ne hb]), find_sort r hs']; rfl
    · rw [if_neg hb, if_neg hb]
      by_cases hq : q.1 = key
      · rw [List.find?_cons_of_pos (by simp [hq])]; simp [hq]
      · rw [List.find?_cons_of_neg (by simp [hq]), List.find?_eq_none.2 (fun p hp => by
          have := blt_ne (blt_trans (blt_tri hb hq) (hall p hp))
          simpa using fun e => this e.symm)]
        simp [hq]
theorem jfB_fnd {v : JV} {key : ByteArray} (h5 : v.kind = 5) (hs : msorted v.m) : jfB v key = fnd v.m key := by
  unfold jfB jfind
  rw [if_pos h5, find_sort v.m hs]
  by_cases h : fnd v.m key = true
  · obtain ⟨q, hq, _⟩ := fnd_get h
    rw [if_pos h, hq, h]; rfl
  · rw [if_neg h]; simpa using h
theorem ms_lt {m : List BJ} {key : ByteArray} {j : Nat} {p : BJ} (hj : j < rinsK m key) (hp : m[j]? = some p) : blt p.1 key = true := by
  have h1 : (m.takeWhile fun q => blt q.1 key)[j]? = some p := by
    obtain ⟨t, ht⟩ := List.takeWhile_prefix (fun q : BJ => blt q.1 key) (l := m)
    rw [← ht, List.getElem?_append_left hj] at hp
    exact hp
  exact List.all_eq_true.1 (List.all_takeWhile (p := fun q => blt q.1 key) (l := m)) p (List.mem_of_getElem? h1)
theorem ms_uni {m : List BJ} (hs : msorted m) {i j : Nat} {p q : BJ} (hp : m[i]? = some p) (hq : m[j]? = some q) (h : p.1 = q.1) : p = q := by
  rcases Nat.lt_trichotomy i j with e | e | e
  · have := ms_get hs e hp hq; rw [h, blt_irr] at this; cases this
  · subst e; rw [hp] at hq; exact Option.some.inj hq
  · have := ms_get hs e hq hp; rw [h, blt_irr] at this; cases this
variable {op : Int} {x : JV} {g : JV → JV × Bool} {r0 : List BL}
theorem jed_pwi (h0 : r0 ≠ []) (base : ∀ v, jst v → jed op x r0 v = ((g v).1, eC (g v).2)) : ∀ (l : List BL) (v : JV), jst v → jed op x (l ++ r0) v = ((pwi g l v).1, eC (pwi g l v).2)
  | [], v, h => base v h
  | nm :: r, v, h => by
    have hl : (r ++ r0).isEmpty = false := by cases r <;> cases r0 <;> simp_all
    have hs := st_ms h
    rw [List.cons_append]
    by_cases h4 : v.kind = 4
    · have hm0 : v.m = [] := st_nom h (by omega)
      have hjo : jeO op nm false v = jixO nm v.l.length false := by unfold jeO; simp
      have hjk : jeK op nm false v = jixN nm v.l.length false := by unfold jeK; simp
      by_cases ho : jixO nm v.l.length false = true
      · obtain ⟨k, hk, hkl⟩ := jix_nat ho
        have ha : v.l[k]? = some v.l[k] := List.getElem?_eq_getElem hkl
        have ih := jed_pwi h0 base r v.l[k] (st_get h ha)
        have hgd : v.l.getD k vz = v.l[k] := by rw [List.getD_eq_getElem?_getD, ha]; rfl
        cases hb : (pwi g r v.l[k]).2 with
        | true =>
          rw [hb] at ih
          rw [jedA_ok hl h4 (by rw [hjk, hk]) (by rw [hjo]; exact ho) (fun _ => by rw [hgd, ih]; rfl), pwi_4 h4 ho hk ha hb, hgd, ih, eA_set hkl, hm0]; rfl
        | false =>
          rw [hb] at ih
          rw [jedA_bad hl h4 (by rw [hjk, hk]) (by rw [hjo]; exact ho) rfl ha (by rw [ih]; show ¬ eC false = 0; decide), pwi_bad4 h4 hk ha hb, ih] <;> rfl
      · rw [jedA_no hl h4 (by rw [hjo]; simpa using ho), pwi_no4 h4 (by simpa using ho)]; rfl
    · by_cases h5 : v.kind = 5
      · have hl0 : v.l = [] := st_nol h h4
        by_cases hf : fnd v.m (ba nm) = true
        · obtain ⟨q, hq, hqk⟩ := fnd_get hf
          have ih := jed_pwi h0 base r q.2 (st_mget h hq)
          have hjf : jfB v (ba nm) = true := by rw [jfB_fnd h5 hs]; exact hf
          cases hb : (pwi g r q.2).2 with
          | true =>
            rw [hb] at ih
            have hlt := (List.getElem?_eq_some_iff.1 hq).1
            rw [jedM_ok hl h4 h5 (.inl hjf) (eBad_none (fun p hp hk => by
              obtain ⟨j, hj⟩ := List.getElem?_of_mem hp
              rw [ms_uni hs hj hq (hk.trans hqk.symm), ih]; rfl) _), pwi_5 h4 h5 hf hq hb, eM_sort v.m hs, if_neg (by simp), if_pos hf, if_pos hf, hq, hl0, List.set_eq_take_append_cons_drop, if_pos hlt]
            simp only [ih, hqk]; (try rfl)
          | false =>
            rw [hb] at ih
            rw [jedM_bad hl h4 h5 (.inl hjf) (eBad_at (g := fun y => (jed op x (r ++ r0) y).2) hq (fun p hp hk => by
              obtain ⟨j, hj⟩ := List.getElem?_of_mem hp
              rw [List.getElem?_take] at hj
              split at hj
              · rename_i hjl; exact absurd hk (blt_ne (ms_lt hjl hj))
              · cases hj) hqk (by simp only [ih]; show ¬ eC false = 0; decide)) (by simp only [ih]; show ¬ eC false = 0; decide), pwi_bad5 h4 hq hb]
            simp only [ih]
        · rw [jedM_no hl h4 (.inr ⟨by rw [jfB_fnd h5 hs]; simpa using hf, .inr rfl⟩), pwi_no5 h4 (by simpa using hf)]; rfl
      · rw [jedM_no hl h4 (.inl h5), pwi_n h4 h5]; rfl
end Lg
namespace Lg
open Go
variable [GLay]
theorem add_base (x : JV) (nm : BL) (v : JV) (h : jst v) : jed 1 x [nm] v = ((padd nm x v).1, eC (padd nm x v).2) := by
  have hs := st_ms h
  have hl : ([] : List BL).isEmpty = true := rfl
  by_cases h4 : v.kind = 4
  · have hm0 : v.m = [] := st_nom h (by omega)
    have hjo : jeO 1 nm true v = jixO nm v.l.length true := rfl
    have hjk : jeK 1 nm true v = jixN nm v.l.length true := rfl
    by_cases ho : jixO nm v.l.length true = true
    · obtain ⟨k, hk, hkl⟩ := jix_nat2 ho
      rw [jedA_ok hl h4 (by rw [hjk, hk]) (by rw [hjo]; exact ho) (fun h => by cases h), padd_4 h4 ho hk, eA_ins hkl, hm0]; rfl
    · rw [jedA_no hl h4 (by rw [hjo]; simpa using ho), padd_no h4 (by simpa using ho)]; rfl
  · by_cases h5 : v.kind = 5
    · have hl0 : v.l = [] := st_nol h h4
      rw [jedM_ok hl h4 h5 (.inr ⟨rfl, rfl⟩) rfl, padd_5 h5, eM_sort v.m hs, if_pos rfl, if_neg (by decide), hl0]
      have : padM v.m (ba nm) x = v.m.take (rinsK v.m (ba nm)) ++ ([(ba nm, x)] ++ v.m.drop (rinsK v.m (ba nm) + if fnd v.m (ba nm) = true then 1 else 0)) := by
        unfold padM
        by_cases hf : fnd v.m (ba nm) = true
        · obtain ⟨q, hq, _⟩ := fnd_get hf
          rw [if_pos hf, if_pos hf, List.set_eq_take_append_cons_drop, if_pos (List.getElem?_eq_some_iff.1 hq).1]; rfl
        · rw [if_neg hf, if_neg hf]; rfl
      rw [this]; rfl
    · rw [jedM_no hl h4 (.inl h5), padd_n h4 h5]; rfl
theorem rem_base (x : JV) (nm : BL) (v : JV) (h : jst v) : jed 2 x [nm] v = ((prem nm v).1, eC (prem nm v).2) := by
  have hs := st_ms h
  have hl : ([] : List BL).isEmpty = true := rfl
  by_cases h4 : v.kind = 4
  · have hm0 : v.m = [] := st_nom h (by omega)
    have hjo : jeO 2 nm true v = jixO nm v.l.length false := rfl
    have hjk : jeK 2 nm true v = jixN nm v.l.length false := rfl
    by_cases ho : jixO nm v.l.length false = true
    · obtain ⟨k, hk, hkl⟩ := jix_nat ho
      rw [jedA_ok hl h4 (by rw [hjk, hk]) (by rw [hjo]; exact ho) (fun h => by cases h), prem_4 h4 ho hk, eA_del hkl, hm0]; rfl
    · rw [jedA_no hl h4 (by rw [hjo]; simpa using ho), prem_no h4 (by simpa using ho)]; rfl
  · by_cases h5 : v.kind = 5
    · have hl0 : v.l = [] := st_nol h h4
      by_cases hf : fnd v.m (ba nm) = true
      · rw [jedM_ok hl h4 h5 (.inl (by rw [jfB_fnd h5 hs]; exact hf)) rfl, prem_5 h5 hf, eM_sort v.m hs, if_pos rfl, if_pos rfl, if_pos hf, hl0]; rfl
      · rw [jedM_no hl h4 (.inr ⟨by rw [jfB_fnd h5 hs]; simpa using hf, .inl (by decide)⟩), prem_no5 h5 (by simpa using hf)]; rfl
    · rw [jedM_no hl h4 (.inl h5), prem_n h4 h5]; rfl
theorem rep_base (x : JV) (nm : BL) (v : JV) (h : jst v) : jed 3 x [nm] v = ((pwi (fun _ => (x, true)) [nm] v).1, eC (pwi (fun _ => (x, true)) [nm] v).2) := by
  have hs := st_ms h
  have hl : ([] : List BL).isEmpty = true := rfl
  by_cases h4 : v.kind = 4
  · have hm0 : v.m = [] := st_nom h (by omega)
    have hjo : jeO 3 nm true v = jixO nm v.l.length false := rfl
    have hjk : jeK 3 nm true v = jixN nm v.l.length false := rfl
    by_cases ho : jixO nm v.l.length false = true
    · obtain ⟨k, hk, hkl⟩ := jix_nat ho
      have ha : v.l[k]? = some v.l[k] := List.getElem?_eq_getElem hkl
      rw [jedA_ok hl h4 (by rw [hjk, hk]) (by rw [hjo]; exact ho) (fun h => by cases h), pwi_4 h4 ho hk ha rfl, eA_rep hkl, hm0]; rfl
    · rw [jedA_no hl h4 (by rw [hjo]; simpa using ho), pwi_no4 h4 (by simpa using ho)]; rfl
  · by_cases h5 : v.kind = 5
    · have hl0 : v.l = [] := st_nol h h4
      by_cases hf : fnd v.m (ba nm) = true
      · obtain ⟨q, hq, _⟩ := fnd_get hf
        rw [jedM_ok hl h4 h5 (.inl (by rw [jfB_fnd h5 hs]; exact hf)) rfl, pwi_5 h4 h5 hf hq rfl, eM_sort v.m hs, if_pos rfl, if_neg (by decide), if_pos hf, hl0, List.set_eq_take_append_cons_drop, if_pos (List.getElem?_eq_some_iff.1 hq).1]; rfl
      · rw [jedM_no hl h4 (.inr ⟨by rw [jfB_fnd h5 hs]; simpa using hf, .inl (by decide)⟩), pwi_no5 h4 (by simpa using hf)]; rfl
    · rw [jedM_no hl h4 (.inl h5), pwi_n h4 h5]; rfl
theorem pwi_app {g : JV → JV × Bool} (r : List BL) : ∀ (l : List BL) (v : JV), pwi g (l ++ r) v = pwi (pwi g r) l v
  | [], v => rfl
  | nm :: l, v => by rw [List.cons_append, pwi, pwi]; simp only [pwi_app r l]
theorem jed_add (x : JV) (l : List BL) (nm : BL) (v : JV) (h : jst v) : jed 1 x (l ++ [nm]) v = ((pwi (padd nm x) l v).1, eC (pwi (padd nm x) l v).2) := jed_pwi (by simp) (add_base x nm) l v h
theorem jed_rem (x : JV) (l : List BL) (nm : BL) (v : JV) (h : jst v) : jed 2 x (l ++ [nm]) v = ((pwi (prem nm) l v).1, eC (pwi (prem nm) l v).2) := jed_pwi (by simp) (rem_base x nm) l v h
theorem jed_rep (x : JV) (l : List BL) (v : JV) (h : jst v) : jed 3 x l v = ((pwi (fun _ => (x, true)) l v).1, eC (pwi (fun _ => (x, true)) l v).2) := by
  rcases List.eq_nil_or_concat l with rfl | ⟨l0, nm, rfl⟩
  · rw [jed_nil (by decide)]; rfl
  · rw [List.concat_eq_append, pwi_app]; exact jed_pwi (by simp) (rep_base x nm) l0 v h
end Lg
namespace Lg
mutual
def jq : JV → JV → Bool
  | .mk k b n s l m, .mk k' b' n' s' l' m' => decide (k = k') && decide (b = b') && decide (n.neg = n'.neg) && decide (n.digits.data = n'.digits.data) && decide (n.exp = n'.exp) && decide (s.data = s'.data) && jqL l l' && jqM m m'
def jqL : List JV → List JV → Bool
  | [], [] => true
  | x :: r, y :: q => jq x y && jqL r q
  | [], _ :: _ => false
  | _ :: _, [] => false
def jqM : List (ByteArray × JV) → List (ByteArray × JV) → Bool
  | [], [] => true
  | (a, x) :: r, (c, y) :: q => decide (a.data = c.data) && jq x y && jqM r q
  | [], _ :: _ => false
  | _ :: _, [] => false
end
mutual
theorem jq_eq : ∀ {v w : JV}, jq v w = true → v = w
  | .mk k b n s l m, .mk k' b' n' s' l' m', h => by
    simp only [jq, Bool.and_eq_true, decide_eq_true_eq] at h
    obtain ⟨⟨⟨⟨⟨⟨⟨h1, h2⟩, h3⟩, h4⟩, h5⟩, h6⟩, h7⟩, h8⟩ := h
    have hl := jqL_eq h7
    have hm := jqM_eq h8
    obtain ⟨a, ⟨d⟩, e⟩ := n
    obtain ⟨a', ⟨d'⟩, e'⟩ := n'
    obtain ⟨s⟩ := s
    obtain ⟨s'⟩ := s'
    simp only at h3 h4 h5 h6
    subst h1 h2 h3 h4 h5 h6 hl hm
    rfl
theorem jqL_eq : ∀ {l q : List JV}, jqL l q = true → l = q
  | [], [], _ => rfl
  | x :: r, y :: q, h => by
    simp only [jqL, Bool.and_eq_true] at h
    rw [jq_eq h.1, jqL_eq h.2]
  | [], _ :: _, h => by simp [jqL] at h
  | _ :: _, [], h => by simp [jqL] at h
theorem jqM_eq : ∀ {l q : List (ByteArray × JV)}, jqM l q = true → l = q
  | [], [], _ => rfl
  | (⟨a⟩, x) :: r, (⟨c⟩, y) :: q, h => by
    simp only [jqM, Bool.and_eq_true, decide_eq_true_eq] at h
    obtain ⟨⟨h1, h2⟩, h3⟩ := h
    subst h1
    rw [jq_eq h2, jqM_eq h3]
  | [], _ :: _, h => by simp [jqM] at h
  | _ :: _, [], h => by simp [jqM] at h
end
end Lg
set_option maxRecDepth 20000
set_option maxHeartbeats 4000000
namespace Lg
open Go Go.Proofs Go.RowKit
variable [GLay] 
theorem redit_c (op : Int) (x : JV) (xs : List AV) (hxs : vcells x = xs) (hop : 1 ≤ op ∧ op ≤ 3) : ∀ (l : List BL) (f : Bool) (v : JV) (cs : List AV) (σ : List AO), (∀ nm ∈ l, nm.length ≤ 1000000) → vcells v = cs → jb v → ACalls Tryz.prog 16 [.int .i64 op, .agg cs, .sl f 1 (srow l), .agg xs] σ (Ret (.tup [.agg (vcells (jed op x l v).1), .int .i64 (jed op x l v).2]) σ)
  | [], f, v, cs, σ, _, hc, _ => redit_0 op x xs hxs f v cs σ hc
  | nm :: r, f, v, cs, σ, hl, hc, hb => by
    have ih : ∀ (v : JV) (cs : List AV) (es : List (List AV)) (σ : List AO), vcells v = cs → es = srow r → jb v → ACalls Tryz.prog 16 [.int .i64 op, .agg cs, .sl false 1 es, .agg xs] σ (Ret (.tup [.agg (vcells (jed op x r v).1), .int .i64 (jed op x r v).2]) σ) := by
      rintro v cs es σ hc rfl hb
      exact redit_c op x xs hxs hop r false v cs σ (fun n hn => hl n (List.mem_cons_of_mem _ hn)) hc hb
    by_cases h4 : v.kind = 4
    · exact redit_4 op x xs hxs r ih f nm v cs σ hc hb hop (hl nm (List.mem_cons_self ..)) h4
    · exact redit_5 op x xs hxs r ih f nm v cs σ hc hb hop h4
def ex1n : ByteArray := ⟨#[91, 49, 44, 110, 117, 108, 108, 93]⟩
theorem ex1_0 : (rParse ex16).2.1 = 0 ∧ (rParse ex1n).2.1 = 0 := by rw [rParse_C (by decide), rParse_C (by decide)]; decide +kernel
theorem ex1_q : (padd [45] vz (rParse ex16).1).2 = true := by rw [rParse_C (by decide)]; decide +kernel
theorem ex1_r : jq (padd [45] vz (rParse ex16).1).1 (rParse ex1n).1 = true := by rw [rParse_C (by decide), rParse_C (by decide)]; decide +kernel
theorem ex1_p : padd [45] vz (rParse ex16).1 = ((rParse ex1n).1, true) := Prod.ext (jq_eq ex1_r) ex1_q
theorem parse7_c (σ : List AO) : ACalls Tryz.prog 30 [.str ⟨#[91, 49, 93]⟩] σ (Ret (.tup [.agg (vcells (rParse ex16).1), .int .i64 (rParse ex16).2.1, .int .i64 (rParse ex16).2.2]) σ) := parse_c ex16 σ (by decide)
theorem parse7b_c (σ : List AO) : ACalls Tryz.prog 30 [.str ⟨#[91, 49, 44, 110, 117, 108, 108, 93]⟩] σ (Ret (.tup [.agg (vcells (rParse ex1n).1), .int .i64 (rParse ex1n).2.1, .int .i64 (rParse ex1n).2.2]) σ) := parse_c ex1n σ (by decide)
theorem eadd7_c (v w : JV) (cs : List AV) (σ : List AO) (hc : vcells v = cs) (hjb : jb v) (hmay : jst v) (hp : padd [45] vz v = (w, true)) : ACalls Tryz.prog 13 [.agg cs, .sl true 1 [[.str ⟨#[45]⟩]], .agg [.int .i64 0, .bool false, .bool false, .str ⟨#[]⟩, .int .i64 0, .str ⟨#[]⟩, .nils, .nils]] σ (Ret (.tup [.agg (vcells w), gerr true]) σ) := by
  have h := eadd_1 vz _ rfl [] [45] (by simp) (by decide) (by decide) true v cs σ hc hjb hmay
  rw [show pwi (padd [45] vz) [] v = padd [45] vz v from rfl, hp] at h
  exact ACalls.conv (args' := [.agg cs, .sl true 1 (srow ([] ++ [[45]])), .agg (vcells vz)]) ⟨AVle.refl _, AVle.refl _, AVle.agg (vle8 nilL nilM), trivial⟩ h
theorem erem7_c (v : JV) (cs : List AV) (σ : List AO) (hc : vcells v = cs) (hjb : jb v) (hmay : jst v) : ACalls Tryz.prog 14 [.agg cs, .nils] σ (Ret (.tup [.agg (vcells vz), .iface 69 (.int .i64 7)]) σ) :=
  ACalls.conv (args' := [.agg cs, .sl false 1 (srow [])]) ⟨AVle.refl _, AVle.nils false 1, trivial⟩ (erem_0 false v cs σ hc hjb hmay)
theorem up7_c (σ : List AO) : ACalls Tryz.prog 10 [] σ (Ret (.bool true) σ) := by
 refine ACalls_body Tryz.func10 rfl Tryz.ntmps10 (res1 Tryz.results10) (Nat.le_of_ble_eq_true rfl) (fun hcl hal => ?_)
 refine zw1 ?_
 refine zsr ?_
 refine zt rfl (zc rfl (parse7_c _)) ?_
 obtain ⟨hmay, hjb, _⟩ := rParse_ok ex16 ex1_0.1
 have hmay := may_st hmay
 have hp := ex1_p
 generalize (rParse ex16).1 = v at hmay hjb hp ⊢
 rw [vcells_eq v]
 refine zv8 ?_
 refine zsr ?_
 refine zt rfl (zc rfl (parse7b_c _)) ?_
 have hjw := (rParse_ok ex1n ex1_0.2).2.1
 generalize (rParse ex1n).1 = w at hp hjw ⊢
 rw [vcells_eq w]
 refine zv8 ?_
 refine zu1 ?_
 refine zt rfl (op_buildSlice [[_]] rfl Tryz.underlying31 Tryz.sizeOf9 Tryz.zeroValue9 rfl (by decide) (by decide) rfl rfl rfl rfl rfl) ?_
 refine zg1 ?_
 refine zt rfl (zc rfl (eadd7_c v w _ _ (vcells_eq v) hjb hmay hp)) ?_
 rw [vcells_eq w]
 refine zv6 ?_
 refine zu1 ?_
 refine zt rfl (zc rfl (erem7_c v _ _ (vcells_eq v) hjb hmay)) ?_
 rw [vcells_eq vz]
 refine zv6 ?_
 refine zu2 ?_
 refine zt rfl (zc rfl (rsameQ_c w _ _ (vcells_eq w) hjw)) ?_
 refine zv1 ?_
 refine zu1 ?_
 refine zt rfl (op_eqGerr rfl Tryz.underlying35 rfl) ?_
 refine zg5 ?_
 refine ztG rfl rfl (zc rfl (code_k 7 _ (by decide) (by decide))) ?_
 refine ztG rfl rfl (op_eqlT rfl rfl rfl rfl) ?_
 refine zv2 ?_
 refine zrt ?_
 exact ResQ_1 rfl hcl (by simp [AV.lt, AV.ltL]) ⟨rfl, rfl⟩
end Lg
namespace Lg
open Go
theorem lb_iff (l : List JV) : lb l ↔ ∀ x ∈ l, jb x := by
  induction l with
  | nil => simp [lb]
  | cons a r ih => simp [lb, ih]
theorem mb_iff (m : List (ByteArray × JV)) : mb m ↔ ∀ q ∈ m, q.1.size ≤ 1000000 ∧ jb q.2 := by
  induction m with
  | nil => simp [mb]
  | cons a r ih => obtain ⟨k, v⟩ := a; simp [mb, ih, and_assoc]
theorem vz_jb0 : jb vz := vz_jb.1
theorem vz_js : jsize vz = 1 := by simp [vz, jsize, lsize, msize]
theorem gd_l {v : JV} {k : Nat} (hs : jsize v ≤ 10000) (hb : jb v) : jsize (v.l.getD k vz) ≤ 10000 ∧ jb (v.l.getD k vz) := by
  rw [List.getD_eq_getElem?_getD]
  cases h : v.l[k]? with
  | none => exact ⟨by rw [Option.getD_none, vz_js]; decide, vz_jb0⟩
  | some x =>
    have h1 := lsize_mem h
    have h2 := jsize_eq v
    have h3 := msize_nn v.m
    exact ⟨by rw [Option.getD_some]; omega, lb_get ((jb_eq v).1 hb).2.2.2.2.1 h⟩
theorem gd_m {v : JV} {k : Nat} {key : ByteArray} (hs : jsize v ≤ 10000) (hb : jb v) : jsize (v.m.getD k (key, vz)).2 ≤ 10000 ∧ jb (v.m.getD k (key, vz)).2 := by
  rw [List.getD_eq_getElem?_getD]
  cases h : v.m[k]? with
  | none => exact ⟨by rw [Option.getD_none, vz_js]; decide, vz_jb0⟩
  | some x =>
    have h1 := msize_mem h
    have h2 := jsize_eq v
    have h3 := lsize_nn v.l
    exact ⟨by rw [Option.getD_some]; omega, ((mb_iff _).1 ((jb_eq v).1 hb).2.2.2.2.2 x (List.mem_of_getElem? h)).2⟩
theorem ba_le {nm : BL} (h : nm.length ≤ 1000000) : (ba nm).size ≤ 1000000 := by rw [ba_size]; exact h
theorem pwi_jb {g : JV → JV × Bool} (hg : ∀ v, jsize v ≤ 10000 → jb v → jb (g v).1) : ∀ (l : List BL) (v : JV), (∀ n ∈ l, n.length ≤ 1000000) → jsize v ≤ 10000 → jb v → jb (pwi g l v).1
  | [], v, _, hs, hb => hg v hs hb
  | nm :: r, v, hl, hs, hb => by
    have ih := pwi_jb hg r
    have hl' : ∀ n ∈ r, n.length ≤ 1000000 := fun n h => hl n (List.mem_cons_of_mem _ h)
    have hv := (jb_eq v).1 hb
    rw [pwi]
    split
    · split
      · rw [jb_eq]
        refine ⟨hv.1, hv.2.1, by simp only [JV.l, List.length_set]; exact hv.2.2.1, hv.2.2.2.1, (lb_iff _).2 fun x hx => ?_, hv.2.2.2.2.2⟩
        rcases List.mem_or_eq_of_mem_set hx with h | h
        · exact (lb_iff _).1 hv.2.2.2.2.1 x h
        · rw [h]; exact ih _ hl' (gd_l hs hb).1 (gd_l hs hb).2
      · exact vz_jb0
    · split
      · rw [jb_eq]
        refine ⟨hv.1, hv.2.1, hv.2.2.1, by simp only [JV.m, List.length_set]; exact hv.2.2.2.1, hv.2.2.2.2.1, (mb_iff _).2 fun x hx => ?_⟩
        rcases List.mem_or_eq_of_mem_set hx with h | h
        · exact (mb_iff _).1 hv.2.2.2.2.2 x h
        · rw [h]; exact ⟨ba_le (hl nm (List.mem_cons_self ..)), ih _ hl' (gd_m hs hb).1 (gd_m hs hb).2⟩
      · exact vz_jb0
theorem lsize_ln : ∀ l : List JV, (l.length : Int) ≤ lsize l
  | [] => by simp [lsize]
  | a :: r => by have h1 := lsize_ln r; have h2 := jsize_pos a; simp only [lsize, List.length_cons]; omega
theorem msize_ln : ∀ l : List (ByteArray × JV), (l.length : Int) ≤ msize l
  | [] => by simp [msize]
  | (k, a) :: r => by have h1 := msize_ln r; have h2 := jsize_pos a; simp only [msize, List.length_cons]; omega
theorem jl_ln {v : JV} (hs : jsize v ≤ 10000) : v.l.length ≤ 10000 ∧ v.m.length ≤ 10000 := by
  have h2 := jsize_eq v
  have h3 := lsize_ln v.l
  have h4 := msize_ln v.m
  omega
theorem padd_jb {nm : BL} {x : JV} (hn : nm.length ≤ 1000000) (hx : jb x) (v : JV) (hs : jsize v ≤ 10000) (hb : jb v) : jb (padd nm x v).1 := by
  have hv := (jb_eq v).1 hb
  have hln := jl_ln hs
  unfold padd
  split
  · split
    · rw [jb_eq]
      refine ⟨hv.1, hv.2.1, ?_, hv.2.2.2.1, (lb_iff _).2 fun y hy => ?_, hv.2.2.2.2.2⟩
      · show List.length (_ ++ _) ≤ _
        simp only [List.length_append, List.length_take, List.length_cons, List.length_drop]; omega
      · rcases List.mem_append.1 hy with h | h
        · exact (lb_iff _).1 hv.2.2.2.2.1 y (List.mem_of_mem_take h)
        · rcases List.mem_cons.1 h with h | h
          · rw [h]; exact hx
          · exact (lb_iff _).1 hv.2.2.2.2.1 y (List.mem_of_mem_drop h)
    · exact vz_jb0
  · split
    · rw [jb_eq]
      have hm : (padM v.m (ba nm) x).length ≤ 1000000 ∧ ∀ q ∈ padM v.m (ba nm) x, q.1.size ≤ 1000000 ∧ jb q.2 := by
        unfold padM
        split
        · refine ⟨by rw [List.length_set]; omega, fun q hq => ?_⟩
          rcases List.mem_or_eq_of_mem_set hq with h | h
          · exact (mb_iff _).1 hv.2.2.2.2.2 q h
          · rw [h]; exact ⟨ba_le hn, hx⟩
        · refine ⟨by simp only [List.length_append, List.length_take, List.length_cons, List.length_drop]; omega, fun q hq => ?_⟩
          rcases List.mem_append.1 hq with h | h
          · exact (mb_iff _).1 hv.2.2.2.2.2 q (List.mem_of_mem_take h)
          · rcases List.mem_cons.1 h with h | h
            · rw [h]; exact ⟨ba_le hn, hx⟩
            · exact (mb_iff _).1 hv.2.2.2.2.2 q (List.mem_of_mem_drop h)
      exact ⟨hv.1, hv.2.1, hv.2.2.1, hm.1, hv.2.2.2.2.1, (mb_iff _).2 hm.2⟩
    · exact vz_jb0
theorem prem_jb {nm : BL} (v : JV) (hs : jsize v ≤ 10000) (hb : jb v) : jb (prem nm v).1 := by
  have hv := (jb_eq v).1 hb
  have hln := jl_ln hs
  unfold prem
  split
  · split
    · rw [jb_eq]
      refine ⟨hv.1, hv.2.1, ?_, hv.2.2.2.1, (lb_iff _).2 fun y hy => ?_, hv.2.2.2.2.2⟩
      · show List.length (_ ++ _) ≤ _
        simp only [List.length_append, List.length_take, List.length_drop]; omega
      · rcases List.mem_append.1 hy with h | h
        · exact (lb_iff _).1 hv.2.2.2.2.1 y (List.mem_of_mem_take h)
        · exact (lb_iff _).1 hv.2.2.2.2.1 y (List.mem_of_mem_drop h)
    · exact vz_jb0
  · split
    · split
      · rw [jb_eq]
        refine ⟨hv.1, hv.2.1, hv.2.2.1, ?_, hv.2.2.2.2.1, (mb_iff _).2 fun q hq => ?_⟩
        · show List.length (_ ++ _) ≤ _
          simp only [List.length_append, List.length_take, List.length_drop]; omega
        · rcases List.mem_append.1 hq with h | h
          · exact (mb_iff _).1 hv.2.2.2.2.2 q (List.mem_of_mem_take h)
          · exact (mb_iff _).1 hv.2.2.2.2.2 q (List.mem_of_mem_drop h)
      · exact vz_jb0
    · exact vz_jb0
theorem jed_jb [GLay] {op : Int} (hop : op = 1 ∨ op = 2 ∨ op = 3) {x : JV} (hx : jb x) (l : List BL) (hl : ∀ n ∈ l, n.length ≤ 1000000) {v : JV} (hs : jsize v ≤ 10000) (hb : jb v) (hm : jst v) : jb (jed op x l v).1 ∧ 0 ≤ (jed op x l v).2 ∧ (jed op x l v).2 ≤ 7 := by
  have he : ∀ b, 0 ≤ eC b ∧ eC b ≤ 7 := by decide
  rcases hop with rfl | rfl | rfl
  · rcases List.eq_nil_or_concat l with rfl | ⟨l0, nm, rfl⟩
    · rw [jed_nil (by decide)]; exact ⟨hx, Int.le_refl _, show (0 : Int) ≤ 7 by decide⟩
    · rw [List.concat_eq_append] at *
      rw [jed_add x l0 nm v hm]
      exact ⟨pwi_jb (padd_jb (hl nm (by simp)) hx) l0 v (fun n h => hl n (List.mem_append_left _ h)) hs hb, he _⟩
  · rcases List.eq_nil_or_concat l with rfl | ⟨l0, nm, rfl⟩
    · rw [jed_nil2]; exact ⟨vz_jb0, show (0 : Int) ≤ 7 by decide, Int.le_refl _⟩
    · rw [List.concat_eq_append] at *
      rw [jed_rem x l0 nm v hm]
      exact ⟨pwi_jb prem_jb l0 v (fun n h => hl n (List.mem_append_left _ h)) hs hb, he _⟩
  · rw [jed_rep x l v hm]
    exact ⟨pwi_jb (fun _ _ _ => hx) l v hl hs hb, he _⟩
end Lg
set_option maxRecDepth 20000
set_option maxHeartbeats 4000000
namespace Lg
open Go Go.Proofs Go.RowKit
variable [GLay] 
def cerJ (k : Int) : AV := if k = 0 then .nili else .iface 69 (.int .i64 k)
theorem cerJ_b (b : Bool) : gerr b = cerJ (eC b) := by cases b <;> rfl
theorem codeJ_c (k : Int) (σ : List AO) (h0 : 0 ≤ k) (h14 : k ≤ 14) : ACalls Tryz.prog 18 [cerJ k] σ (Ret (.int .i64 k) σ) := by
  unfold cerJ
  by_cases h : k = 0
  · subst h; exact code_0 σ
  · rw [if_neg h]; exact code_k k σ (by omega) h14
theorem eaddJ_c (x : JV) (xs : List AV) (hxs : vcells x = xs) (l : List BL) (hl : ∀ n ∈ l, n.length ≤ 1000000) (hll : l.length ≤ 1000000) (f : Bool) (v : JV) (cs : List AV) (σ : List AO) (hc : vcells v = cs) (hjb : jb v) (hmay : jst v) : ACalls Tryz.prog 13 [.agg cs, .sl f 1 (srow l), .agg xs] σ (Ret (.tup [.agg (vcells (jed 1 x l v).1), cerJ (jed 1 x l v).2]) σ) := by
  rcases List.eq_nil_or_concat l with rfl | ⟨l0, nm, rfl⟩
  · rw [jed_nil (by decide)]; exact eadd_0 x xs hxs f v cs σ hc hjb hmay
  · rw [List.concat_eq_append] at *
    rw [jed_add x l0 nm v hmay, ← cerJ_b]
    exact eadd_1 x xs hxs l0 nm (fun n hn => hl n (List.mem_append_left _ hn)) (by rw [List.length_append] at hll; omega) (hl nm (by simp)) f v cs σ hc hjb hmay
theorem eremJ_c (x : JV) (l : List BL) (hl : ∀ n ∈ l, n.length ≤ 1000000) (hll : l.length ≤ 1000000) (f : Bool) (v : JV) (cs : List AV) (σ : List AO) (hc : vcells v = cs) (hjb : jb v) (hmay : jst v) : ACalls Tryz.prog 14 [.agg cs, .sl f 1 (srow l)] σ (Ret (.tup [.agg (vcells (jed 2 x l v).1), cerJ (jed 2 x l v).2]) σ) := by
  rcases List.eq_nil_or_concat l with rfl | ⟨l0, nm, rfl⟩
  · exact erem_0 f v cs σ hc hjb hmay
  · rw [List.concat_eq_append] at *
    rw [jed_rem x l0 nm v hmay, ← cerJ_b]
    exact erem_1 l0 nm (fun n hn => hl n (List.mem_append_left _ hn)) (by rw [List.length_append] at hll; omega) (hl nm (by simp)) f v cs σ hc hjb hmay
theorem erepJ_c (x : JV) (xs : List AV) (hxs : vcells x = xs) (l : List BL) (hl : ∀ n ∈ l, n.length ≤ 1000000) (f : Bool) (v : JV) (cs : List AV) (σ : List AO) (hc : vcells v = cs) (hjb : jb v) (hmay : jst v) : ACalls Tryz.prog 15 [.agg cs, .sl f 1 (srow l), .agg xs] σ (Ret (.tup [.agg (vcells (jed 3 x l v).1), cerJ (jed 3 x l v).2]) σ) := by
  rw [jed_rep x l v hmay, ← cerJ_b]
  exact erep_c x xs hxs l hl f v cs σ hc hjb hmay
theorem ptQ_l (p : ByteArray) : ∀ n ∈ (ptQ p).1, n.length ≤ 1000000 := by
  have hpn := pN_ok p.data.toList
  have hsz : p.data.toList.length = p.size := Array.length_toList ..
  unfold ptQ
  split
  · rename_i h; intro n hn; have := hpn.2 n hn; have := h.1.1; omega
  · intro n hn; cases hn
theorem ptQ_n2 (p : ByteArray) : (ptQ p).1.length ≤ 1000000 := by
  have hpn := pN_ok p.data.toList
  have hsz : p.data.toList.length = p.size := Array.length_toList ..
  unfold ptQ
  split
  · rename_i h; have := hpn.1; have := h.1.1; show (pN p.data.toList).length ≤ _; omega
  · exact Nat.zero_le _
theorem editTells_c (s p t : ByteArray) (σ : List AO) (hp : p.size ≤ 140737488355328) : ACalls Tryz.prog 3 [.str s, .str p, .str t] σ (Ret (.bool true) σ) := by
 refine ACalls_body Tryz.func3 rfl Tryz.ntmps3 (res1 Tryz.results3) (Nat.le_of_ble_eq_true rfl) (fun hcl hal => ?_)
 have hva := rValue_ok s
 have hxa := rValue_ok t
 have hl : ∀ n ∈ (ptQ p).1, n.length ≤ 1000000 := ptQ_l p
 have hll := ptQ_n2 p
 refine zw1 ?_
 refine zsr ?_
 refine zt rfl (zc rfl (up7_c _)) ?_
 refine zv1 ?_
 refine zu1 ?_
 refine zt rfl (zc rfl (value_c s _)) ?_
 generalize (rValue s).1 = v at hva ⊢
 generalize (rValue s).2 = ok at hva ⊢
 rw [vcells_eq v]
 refine zv6 ?_
 refine zu1 ?_
 refine zt rfl (zc rfl (ptrL_c p _ hp)) ?_
 generalize (ptQ p).1 = l at hl hll ⊢
 generalize (ptQ p).2 = ok2
 refine zv5 ?_
 refine zu1 ?_
 refine zt rfl (zc rfl (value_c t _)) ?_
 generalize (rValue t).1 = x at hxa ⊢
 generalize (rValue t).2 = ok3 at hxa ⊢
 rw [vcells_eq x]
 refine zv6 ?_
 refine AWp_seq ?_
 refine zu3 ?_
 refine zsp 47 rfl (fun h1 => ?_) fun h1 => ?_
 ·rw [h1]; replace h1 := zcl h1
  refine zv7 ?_
  refine AWp_condT rfl ?_
  refine zw2 ?_
  refine zrt ?_
  exact ResQ_1 rfl hcl (by simp [AV.lt, AV.ltL]) ⟨rfl, rfl⟩
 ·rw [h1]; replace h1 := zcl h1
  refine zg4 ?_
  refine zsp 51 rfl (fun h2 => ?_) fun h2 => ?_
  ·rw [h2]; replace h2 := zcl h2
   refine zv3 ?_
   refine AWp_condT rfl ?_
   refine zw2 ?_
   refine zrt ?_
   exact ResQ_1 rfl hcl (by simp [AV.lt, AV.ltL]) ⟨rfl, rfl⟩
  ·rw [h2]; replace h2 := zcl h2
   refine zv3 ?_
   refine AWp_cond rfl (fun h3 => ?_) (fun h3 => ?_)
   ·(try rw [h3]); replace h3 := zcl h3
    refine zw2 ?_
    refine zrt ?_
    exact ResQ_1 rfl hcl (by simp [AV.lt, AV.ltL]) ⟨rfl, rfl⟩
   ·(try rw [h3]); replace h3 := zcl h3
    obtain ⟨hmv, hjv, hsv⟩ : jmay v ∧ jb v ∧ jsize v ≤ 2002 := by
     rcases hva with ⟨h, _⟩ | ⟨_, h⟩
     ·exfalso; omega
     ·exact h
    have hmv := may_st hmv
    have hsv0 : jsize v ≤ 10000 := by omega
    have hjx : jb x := by
     rcases hxa with ⟨h, _⟩ | ⟨_, h⟩
     ·exfalso; omega
     ·exact h.2.1
    have hj1 := jed_jb (op := 1) (Or.inl rfl) hjx l hl hsv0 hjv hmv
    have hj2 := jed_jb (op := 2) (Or.inr (Or.inl rfl)) hjx l hl hsv0 hjv hmv
    have hj3 := jed_jb (op := 3) (Or.inr (Or.inr rfl)) hjx l hl hsv0 hjv hmv
    refine AWp_skip ?_
    refine AWp_seq ?_
    refine AWp_heap (σ' := σ ++ [.box [.int .i64 v.kind, .bool v.b, .bool v.n.neg, .str v.n.digits, .int .i64 v.n.exp, .str v.s, .sl false 8 (lcells v.l), .sl false 9 (mcells v.m)], .box [.int .i64 x.kind, .bool x.b, .bool x.n.neg, .str x.n.digits, .int .i64 x.n.exp, .str x.s, .sl false 8 (lcells x.l), .sl false 9 (mcells x.m)]]) rfl ?_
    refine AWp_regL ?_
    refine zg3 ?_
    refine zt rfl (zc rfl (eaddJ_c x _ (vcells_eq x) l hl hll _ v _ _ (vcells_eq v) hjv hmv)) ?_
    rw [vcells_eq (jed 1 x l v).1]
    refine zv6 ?_
    refine AWp_seq ?_
    refine AWp_heap (σ' := σ ++ [.box [.int .i64 v.kind, .bool v.b, .bool v.n.neg, .str v.n.digits, .int .i64 v.n.exp, .str v.s, .sl false 8 (lcells v.l), .sl false 9 (mcells v.m)], .box [.int .i64 x.kind, .bool x.b, .bool x.n.neg, .str x.n.digits, .int .i64 x.n.exp, .str x.s, .sl false 8 (lcells x.l), .sl false 9 (mcells x.m)], .box [.int .i64 (jed 1 x l v).1.kind, .bool (jed 1 x l v).1.b, .bool (jed 1 x l v).1.n.neg, .str (jed 1 x l v).1.n.digits, .int .i64 (jed 1 x l v).1.n.exp, .str (jed 1 x l v).1.s, .sl false 8 (lcells (jed 1 x l v).1.l), .sl false 9 (mcells (jed 1 x l v).1.m)]]) rfl ?_
    refine AWp_regL ?_
    refine zg2 ?_
    refine zt rfl (zc rfl (eremJ_c x l hl hll _ v _ _ (vcells_eq v) hjv hmv)) ?_
    rw [vcells_eq (jed 2 x l v).1]
    refine zv6 ?_
    refine AWp_seq ?_
    refine AWp_heap (σ' := σ ++ [.box [.int .i64 v.kind, .bool v.b, .bool v.n.neg, .str v.n.digits, .int .i64 v.n.exp, .str v.s, .sl false 8 (lcells v.l), .sl false 9 (mcells v.m)], .box [.int .i64 x.kind, .bool x.b, .bool x.n.neg, .str x.n.digits, .int .i64 x.n.exp, .str x.s, .sl false 8 (lcells x.l), .sl false 9 (mcells x.m)], .box [.int .i64 (jed 1 x l v).1.kind, .bool (jed 1 x l v).1.b, .bool (jed 1 x l v).1.n.neg, .str (jed 1 x l v).1.n.digits, .int .i64 (jed 1 x l v).1.n.exp, .str (jed 1 x l v).1.s, .sl false 8 (lcells (jed 1 x l v).1.l), .sl false 9 (mcells (jed 1 x l v).1.m)], .box [.int .i64 (jed 2 x l v).1.kind, .bool (jed 2 x l v).1.b, .bool (jed 2 x l v).1.n.neg, .str (jed 2 x l v).1.n.digits, .int .i64 (jed 2 x l v).1.n.exp, .str (jed 2 x l v).1.s, .sl false 8 (lcells (jed 2 x l v).1.l), .sl false 9 (mcells (jed 2 x l v).1.m)]]) rfl ?_
    refine AWp_regL ?_
    refine zg3 ?_
    refine zt rfl (zc rfl (erepJ_c x _ (vcells_eq x) l hl _ v _ _ (vcells_eq v) hjv hmv)) ?_
    rw [vcells_eq (jed 3 x l v).1]
    refine zv6 ?_
    refine AWp_seq ?_
    refine AWp_heap (σ' := σ ++ [.box [.int .i64 v.kind, .bool v.b, .bool v.n.neg, .str v.n.digits, .int .i64 v.n.exp, .str v.s, .sl false 8 (lcells v.l), .sl false 9 (mcells v.m)], .box [.int .i64 x.kind, .bool x.b, .bool x.n.neg, .str x.n.digits, .int .i64 x.n.exp, .str x.s, .sl false 8 (lcells x.l), .sl false 9 (mcells x.m)], .box [.int .i64 (jed 1 x l v).1.kind, .bool (jed 1 x l v).1.b, .bool (jed 1 x l v).1.n.neg, .str (jed 1 x l v).1.n.digits, .int .i64 (jed 1 x l v).1.n.exp, .str (jed 1 x l v).1.s, .sl false 8 (lcells (jed 1 x l v).1.l), .sl false 9 (mcells (jed 1 x l v).1.m)], .box [.int .i64 (jed 2 x l v).1.kind, .bool (jed 2 x l v).1.b, .bool (jed 2 x l v).1.n.neg, .str (jed 2 x l v).1.n.digits, .int .i64 (jed 2 x l v).1.n.exp, .str (jed 2 x l v).1.s, .sl false 8 (lcells (jed 2 x l v).1.l), .sl false 9 (mcells (jed 2 x l v).1.m)], .box [.int .i64 (jed 3 x l v).1.kind, .bool (jed 3 x l v).1.b, .bool (jed 3 x l v).1.n.neg, .str (jed 3 x l v).1.n.digits, .int .i64 (jed 3 x l v).1.n.exp, .str (jed 3 x l v).1.s, .sl false 8 (lcells (jed 3 x l v).1.l), .sl false 9 (mcells (jed 3 x l v).1.m)]]) rfl ?_
    refine AWp_regL ?_
    refine zg3 ?_
    refine zt rfl (zc rfl (redit_c 1 x _ (vcells_eq x) (by decide) l _ v _ _ hl (vcells_eq v) hjv)) ?_
    rw [vcells_eq (jed 1 x l v).1]
    refine zv6 ?_
    refine AWp_seq ?_
    refine AWp_heap (σ' := σ ++ [.box [.int .i64 v.kind, .bool v.b, .bool v.n.neg, .str v.n.digits, .int .i64 v.n.exp, .str v.s, .sl false 8 (lcells v.l), .sl false 9 (mcells v.m)], .box [.int .i64 x.kind, .bool x.b, .bool x.n.neg, .str x.n.digits, .int .i64 x.n.exp, .str x.s, .sl false 8 (lcells x.l), .sl false 9 (mcells x.m)], .box [.int .i64 (jed 1 x l v).1.kind, .bool (jed 1 x l v).1.b, .bool (jed 1 x l v).1.n.neg, .str (jed 1 x l v).1.n.digits, .int .i64 (jed 1 x l v).1.n.exp, .str (jed 1 x l v).1.s, .sl false 8 (lcells (jed 1 x l v).1.l), .sl false 9 (mcells (jed 1 x l v).1.m)], .box [.int .i64 (jed 2 x l v).1.kind, .bool (jed 2 x l v).1.b, .bool (jed 2 x l v).1.n.neg, .str (jed 2 x l v).1.n.digits, .int .i64 (jed 2 x l v).1.n.exp, .str (jed 2 x l v).1.s, .sl false 8 (lcells (jed 2 x l v).1.l), .sl false 9 (mcells (jed 2 x l v).1.m)], .box [.int .i64 (jed 3 x l v).1.kind, .bool (jed 3 x l v).1.b, .bool (jed 3 x l v).1.n.neg, .str (jed 3 x l v).1.n.digits, .int .i64 (jed 3 x l v).1.n.exp, .str (jed 3 x l v).1.s, .sl false 8 (lcells (jed 3 x l v).1.l), .sl false 9 (mcells (jed 3 x l v).1.m)], .box [.int .i64 (jed 1 x l v).1.kind, .bool (jed 1 x l v).1.b, .bool (jed 1 x l v).1.n.neg, .str (jed 1 x l v).1.n.digits, .int .i64 (jed 1 x l v).1.n.exp, .str (jed 1 x l v).1.s, .sl false 8 (lcells (jed 1 x l v).1.l), .sl false 9 (mcells (jed 1 x l v).1.m)]]) rfl ?_
    refine AWp_regL ?_
    refine zg3 ?_
    refine zt rfl (zc rfl (redit_c 2 x _ (vcells_eq x) (by decide) l _ v _ _ hl (vcells_eq v) hjv)) ?_
    rw [vcells_eq (jed 2 x l v).1]
    refine zv6 ?_
    refine AWp_seq ?_
    refine AWp_heap (σ' := σ ++ [.box [.int .i64 v.kind, .bool v.b, .bool v.n.neg, .str v.n.digits, .int .i64 v.n.exp, .str v.s, .sl false 8 (lcells v.l), .sl false 9 (mcells v.m)], .box [.int .i64 x.kind, .bool x.b, .bool x.n.neg, .str x.n.digits, .int .i64 x.n.exp, .str x.s, .sl false 8 (lcells x.l), .sl false 9 (mcells x.m)], .box [.int .i64 (jed 1 x l v).1.kind, .bool (jed 1 x l v).1.b, .bool (jed 1 x l v).1.n.neg, .str (jed 1 x l v).1.n.digits, .int .i64 (jed 1 x l v).1.n.exp, .str (jed 1 x l v).1.s, .sl false 8 (lcells (jed 1 x l v).1.l), .sl false 9 (mcells (jed 1 x l v).1.m)], .box [.int .i64 (jed 2 x l v).1.kind, .bool (jed 2 x l v).1.b, .bool (jed 2 x l v).1.n.neg, .str (jed 2 x l v).1.n.digits, .int .i64 (jed 2 x l v).1.n.exp, .str (jed 2 x l v).1.s, .sl false 8 (lcells (jed 2 x l v).1.l), .sl false 9 (mcells (jed 2 x l v).1.m)], .box [.int .i64 (jed 3 x l v).1.kind, .bool (jed 3 x l v).1.b, .bool (jed 3 x l v).1.n.neg, .str (jed 3 x l v).1.n.digits, .int .i64 (jed 3 x l v).1.n.exp, .str (jed 3 x l v).1.s, .sl false 8 (lcells (jed 3 x l v).1.l), .sl false 9 (mcells (jed 3 x l v).1.m)], .box [.int .i64 (jed 1 x l v).1.kind, .bool (jed 1 x l v).1.b, .bool (jed 1 x l v).1.n.neg, .str (jed 1 x l v).1.n.digits, .int .i64 (jed 1 x l v).1.n.exp, .str (jed 1 x l v).1.s, .sl false 8 (lcells (jed 1 x l v).1.l), .sl false 9 (mcells (jed 1 x l v).1.m)], .box [.int .i64 (jed 2 x l v).1.kind, .bool (jed 2 x l v).1.b, .bool (jed 2 x l v).1.n.neg, .str (jed 2 x l v).1.n.digits, .int .i64 (jed 2 x l v).1.n.exp, .str (jed 2 x l v).1.s, .sl false 8 (lcells (jed 2 x l v).1.l), .sl false 9 (mcells (jed 2 x l v).1.m)]]) rfl ?_
    refine AWp_regL ?_
    refine zg3 ?_
    refine zt rfl (zc rfl (redit_c 3 x _ (vcells_eq x) (by decide) l _ v _ _ hl (vcells_eq v) hjv)) ?_
    rw [vcells_eq (jed 3 x l v).1]
    refine zv6 ?_
    refine AWp_seq ?_
    refine AWp_heap (σ' := σ ++ [.box [.int .i64 v.kind, .bool v.b, .bool v.n.neg, .str v.n.digits, .int .i64 v.n.exp, .str v.s, .sl false 8 (lcells v.l), .sl false 9 (mcells v.m)], .box [.int .i64 x.kind, .bool x.b, .bool x.n.neg, .str x.n.digits, .int .i64 x.n.exp, .str x.s, .sl false 8 (lcells x.l), .sl false 9 (mcells x.m)], .box [.int .i64 (jed 1 x l v).1.kind, .bool (jed 1 x l v).1.b, .bool (jed 1 x l v).1.n.neg, .str (jed 1 x l v).1.n.digits, .int .i64 (jed 1 x l v).1.n.exp, .str (jed 1 x l v).1.s, .sl false 8 (lcells (jed 1 x l v).1.l), .sl false 9 (mcells (jed 1 x l v).1.m)], .box [.int .i64 (jed 2 x l v).1.kind, .bool (jed 2 x l v).1.b, .bool (jed 2 x l v).1.n.neg, .str (jed 2 x l v).1.n.digits, .int .i64 (jed 2 x l v).1.n.exp, .str (jed 2 x l v).1.s, .sl false 8 (lcells (jed 2 x l v).1.l), .sl false 9 (mcells (jed 2 x l v).1.m)], .box [.int .i64 (jed 3 x l v).1.kind, .bool (jed 3 x l v).1.b, .bool (jed 3 x l v).1.n.neg, .str (jed 3 x l v).1.n.digits, .int .i64 (jed 3 x l v).1.n.exp, .str (jed 3 x l v).1.s, .sl false 8 (lcells (jed 3 x l v).1.l), .sl false 9 (mcells (jed 3 x l v).1.m)], .box [.int .i64 (jed 1 x l v).1.kind, .bool (jed 1 x l v).1.b, .bool (jed 1 x l v).1.n.neg, .str (jed 1 x l v).1.n.digits, .int .i64 (jed 1 x l v).1.n.exp, .str (jed 1 x l v).1.s, .sl false 8 (lcells (jed 1 x l v).1.l), .sl false 9 (mcells (jed 1 x l v).1.m)], .box [.int .i64 (jed 2 x l v).1.kind, .bool (jed 2 x l v).1.b, .bool (jed 2 x l v).1.n.neg, .str (jed 2 x l v).1.n.digits, .int .i64 (jed 2 x l v).1.n.exp, .str (jed 2 x l v).1.s, .sl false 8 (lcells (jed 2 x l v).1.l), .sl false 9 (mcells (jed 2 x l v).1.m)], .box [.int .i64 (jed 3 x l v).1.kind, .bool (jed 3 x l v).1.b, .bool (jed 3 x l v).1.n.neg, .str (jed 3 x l v).1.n.digits, .int .i64 (jed 3 x l v).1.n.exp, .str (jed 3 x l v).1.s, .sl false 8 (lcells (jed 3 x l v).1.l), .sl false 9 (mcells (jed 3 x l v).1.m)]]) rfl ?_
    refine AWp_regL ?_
    refine zg2 ?_
    refine zt rfl (zc rfl (rsameQ_c (jed 1 x l v).1 _ _ (vcells_eq _) hj1.1)) ?_
    refine zv1 ?_
    refine zu2 ?_
    refine zt rfl (zc rfl (rsameQ_c (jed 2 x l v).1 _ _ (vcells_eq _) hj2.1)) ?_
    refine zv1 ?_
    refine zu2 ?_
    refine zt rfl (zc rfl (rsameQ_c (jed 3 x l v).1 _ _ (vcells_eq _) hj3.1)) ?_
    refine zv1 ?_
    refine zsr ?_
    refine zg10 ?_
    refine zg2 ?_
    refine ztG rfl rfl (zc rfl (codeJ_c (jed 1 x l v).2 _ hj1.2.1 (Int.le_trans hj1.2.2 (by decide)))) ?_
    refine zg1 ?_
    refine ztG rfl rfl (op_eqlT rfl rfl rfl rfl) ?_
    refine zg3 ?_
    refine ztG rfl rfl (zc rfl (codeJ_c (jed 2 x l v).2 _ hj2.2.1 (Int.le_trans hj2.2.2 (by decide)))) ?_
    refine zg1 ?_
    refine ztG rfl rfl (op_eqlT rfl rfl rfl rfl) ?_
    refine zg3 ?_
    refine ztG rfl rfl (zc rfl (codeJ_c (jed 3 x l v).2 _ hj3.2.1 (Int.le_trans hj3.2.2 (by decide)))) ?_
    refine zg1 ?_
    refine ztG rfl rfl (op_eqlT rfl rfl rfl rfl) ?_
    refine zv2 ?_
    refine zrt ?_
    exact ResQ_1 rfl hcl (by simp [AV.lt, AV.ltL]) ⟨rfl, rfl⟩
end Lg
set_option maxRecDepth 100000
set_option maxHeartbeats 4000000
namespace Go.Proofs.YtdacoelmmaiffaaGreatDoor
open Go Go.ChangeShapes Go.WideShapes Go.ChangeAt Go.RowKit Go.Lib
open Go.ChangeMaps (open_string shut_string)
noncomputable def editTells_lw (os : Os) : World := World.laidAll Tryz.prog os Rows.editTellsRow.laid
theorem editTells_pl : (Rows.editTellsRow.laid.all fun x => x.2.handleName?.isNone) = true := by kernel_rfl
theorem editTells_mh (os : Os) (args : Array Value) : laidMetH Tryz.prog Rows.editTellsRow.laid ((editTells_lw os).forCall (fun _ _ => 0) ⟨#[], args, []⟩).memory := by
  rw [MakeChecks.laidMetH_plain _ _ _ editTells_pl]; exact laidMet_laidAll _ (by kernel_rfl) (by kernel_rfl)
theorem editTells_lifted (os : Os) (started : os.Started) (H : Type) (enc : TypeId × Value → H) :
    ReturnsInHanded {} Tryz.checked os 3 .any (fun w args => (Rows.editTellsSpec.pre enc Tryz.prog Tryz.f3 [] false w args ∧ laidMetH Tryz.prog Rows.editTellsRow.laid w) ∧ sizedMet enc Tryz.prog Tryz.f3 (OpenSpec.ofChange Rows.editTellsSpec) false w args)
      (Rows.editTellsSpec.post enc Tryz.prog Tryz.f3 false true false false) := by
  refine returnsInHanded_of_change_and (C := Tryz.checked) (X := fun w _ => laidMetH Tryz.prog Rows.editTellsRow.laid w) (fun _ _ _ hh h => h.of_heap hh) own started (by kernel_rfl) Tryz.func3
    (ChangeSpec.witness_shaped (enc := enc) (C := Tryz.checked) (os := os) (X := fun w _ => laidMetH Tryz.prog Rows.editTellsRow.laid w) false (editTells_lw os) #[.string ⟨#[]⟩, .string ⟨#[]⟩, .string ⟨#[]⟩] 8 (World.laidAll_os _ _ _)
      (World.shaped_of_ZipB (by kernel_rfl) (by kernel_rfl)) (by kernel_rfl) (by kernel_rfl) (by kernel_rfl) (editTells_mh os _)) ?_
  intro W base args ds gs before hval0 hW hz0 hz hL _
  have hval : ∀ (j : Nat) t v, Tryz.f3.params[j]? = some t → args[j]? = some v → Value.okWide Tryz.prog W .any base t v := hval0
  have hW' := hW
  obtain ⟨p, q, hA0, hV, rfl, hfz, hnd⟩ := hW
  have hA : DataW.TrodAll enc Tryz.prog W 0 (fun _ => true) true Tryz.f3.params.toList args.toList ds p := hA0
  rw [Tryz.params3] at hA hval hz
  obtain ⟨v0, vs0, d0, ds0, p0, q0, hargs, rfl, rfl, h0, r0⟩ := trodAll_cons hA
  obtain ⟨v1, vs1, d1, ds1, p1, q1, rfl, rfl, rfl, h1, r1⟩ := trodAll_cons r0
  obtain ⟨v2, vs2, d2, ds2, p2, q2, rfl, rfl, rfl, h2, r2⟩ := trodAll_cons r1
  obtain ⟨rfl, rfl, rfl⟩ := trodAll_nil r2
  obtain rfl : args = #[v0, v1, v2] := by cases args; simp_all
  obtain ⟨rfl, rfl⟩ := trodVars_none hV
  obtain ⟨x0, rfl, rfl, rfl, w0⟩ := open_string Tryz.underlying9 (hval 0 9 v0 rfl rfl) h0
  obtain ⟨x1, rfl, rfl, rfl, w1⟩ := open_string Tryz.underlying9 (hval 1 9 v1 rfl rfl) h1
  obtain ⟨x2, rfl, rfl, rfl, w2⟩ := open_string Tryz.underlying9 (hval 2 9 v2 rfl rfl) h2
  clear hA0 hval0
  simp only [List.append_nil] at hW'
  have b1 : x1.size ≤ 140737488355328 := by
    have := List.all_eq_true.1 hz x1.data.toList.length (by simp [DataW.weightsEach, DataW.weights])
    have e : x1.data.toList.length = x1.size := Array.length_toList ..
    rw [e] at this; have := of_decide_eq_true this; unfold reachBytes at this; omega
  have hcall := Lg.calls_of (P := Tryz.prog) (f := 3) (args := [.str x0, .str x1, .str x2]) (cargs := [.string x0, .string x1, .string x2]) (W := W)
    (fun st => (.cons (.str _) (.cons (.str _) (.cons (.str _) .nil))))
    (fun hg => by exact Lg.editTells_c x0 x1 x2 [] b1)
  refine hcall.mono fun e W' ⟨he, hg⟩ => ?_
  subst he
  refine ⟨_, rfl, _, _, _, [], [], [], hW', trodAll_mk1 (shut_bool Tryz.underlying4 _), ?_, rfl, hg.frame _, fun h => by cases h⟩
  exact (trodAll_cons_mk (shut_string Tryz.underlying9 w0) (trodAll_cons_mk (shut_string Tryz.underlying9 w1) (trodAll_cons_mk (shut_string Tryz.underlying9 w2) trodAll_mk0)))
theorem editTells_holds : Rows.EditTellsSaid :=
  OpenClaim.holds_of_wide 3 Tryz.f3 rfl rfl rfl rfl rfl rfl rfl ⟨rfl, rfl, rfl, rfl, rfl⟩ rfl rfl rfl rfl rfl (by kernel_rfl) Tryz.func3 (by kernel_rfl)
    (of_decide_eq_true (by kernel_rfl)) (by unfold Func.isWrapper; first | (rw [if_pos (by decide +kernel)]; kernel_rfl) | (rw [if_neg (by decide +kernel)]; exact ⟨rfl, rfl⟩))
    (fun os started H enc _ => editTells_lifted os started H enc)
end Go.Proofs.YtdacoelmmaiffaaGreatDoor
