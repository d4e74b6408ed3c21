/- A part of the proof of For all texts and every key the law PatchMore answers true, and they read afterwards as before; the card ties the tables.: M3 Le4 Q3 B5 Q5 Q6 W11 W10 W12 W13 W14 W15 W3. -/
import Derived.Test.YtjnofdnoboibpaaDoorP7
import Derived.Test.YtjnofdnoboibpaaDoorP4
import Derived.Test.YtjnofdnoboibpaaDoorP6
import Derived.Test.YtjnofdnoboibpaaDoorP5
import Derived.Test.YtjnofdnoboibpaaDoorP3
set_option linter.unusedVariables false
set_option linter.unusedSimpArgs false
set_option linter.unusedSectionVars false
set_option maxRecDepth 20000
set_option maxHeartbeats 4000000
namespace Lg
open Go Go.Proofs Go.RowKit
variable [GLay] [ML]
theorem redit_5 (op : Int) (x : JV) (xs : List AV) (hxs : vcells x = xs) (r : List BL) (ih : ∀ (v : JV) (cs : List AV) (es : List (List AV)) (σ : List AO), vcells v = cs → es = srow r → jb v → ACalls Tryd.prog 24 [.int .i64 op, .agg cs, .sl false 1 es, .agg xs] σ (Ret (.tup [.agg (vcells (jed op x r v).1), .int .i64 (jed op x r v).2]) σ)) (f : Bool) (nm : BL) (v : JV) (cs : List AV) (σ : List AO) (hc : vcells v = cs) (hjb : jb v) (hop : 1 ≤ op ∧ op ≤ 3) (hk4 : ¬ v.kind = 4) : ACalls Tryd.prog 24 [.int .i64 op, .agg cs, .sl f 1 (srow (nm :: r)), .agg xs] σ (Ret (.tup [.agg (vcells (jed op x (nm :: r) v).1), .int .i64 (jed op x (nm :: r) v).2]) σ) := by
 refine ACalls_bodyC Tryd.func24 rfl Tryd.ntmps24 (by rw [Tryd.results24]; exact (.ck Tryd.isAgg28 Tryd.sizeOf28 (.t .nil))) (Nat.le_of_ble_eq_true rfl) (fun hcl hal => ?_)
 subst hc
 obtain ⟨last, hlast⟩ : ∃ b, r.isEmpty = b := ⟨_, rfl⟩
 have hls : decide ((((srow (nm :: r)).length : Nat) : Int) = 1) = last := by rw [← hlast, srow_len, List.length_cons]; cases r <;> simp <;> omega
 obtain ⟨hb1, hb2, hb3, hb4, hb5, hb6⟩ := (jb_eq v).1 hjb
 have hll := lcells_length v.l
 have hml := mcells_length v.m
 have hsl : 1 ≤ (srow (nm :: r)).length := by rw [srow_len, List.length_cons]; omega
 rw [vcells_eq v, ← hxs, vcells_eq x]
 rw [← hxs, vcells_eq x] at ih
 refine zw4 ?_
 refine AWp_seq ?_
 refine zu2 ?_
 refine zt rfl (op_eqlF rfl rfl rfl (by rw [srow_len, List.length_cons]; omega)) ?_
 refine zon ?_
 refine AWp_condF rfl ?_
 refine AWp_skip ?_
 refine zw3 ?_
 refine zw2 ?_
 refine zw2 ?_
 refine zu3 ?_
 rw [hls]
 refine zv1 ?_
 refine AWp_seq ?_
 refine zw3 ?_
 refine AWp_cond rfl (fun h1 => ?_) (fun h1 => ?_)
 ·(try rw [h1]); replace h1 := zcl h1
  exact absurd h1 hk4
 ·(try rw [h1]); replace h1 := zcl h1
  refine AWp_skip ?_
  refine AWp_seq ?_
  refine AWp_drawL #[0, 0, 2, 6, 15, 31, 63, 63, 0, 383, 1023] Tryd.mixed (by decide +kernel) (by decide +kernel) ?_
  refine zp1 ?_
  refine zd1 ?_
  refine yA rfl rfl (fun _ => op_indexAddr rfl Tryd.underlying64 Tryd.sizeOf9 rfl rfl (by omega) (rfl)) ?_
  refine zp1 ?_
  refine yP rfl rfl (zc rfl (rfindQ_c v (ba nm) _ _ (vcells_eq v) hb4)) (trivial) ?_
  rw [vcells_eq (jfD v (ba nm))]
  refine zd3 ?_
  refine yE rfl rfl (zoa) (⟨.inr (by rw [← vcells_eq (jfD v (ba nm))]; exact zc rfl (rfindQ_c v (ba nm) _ _ (vcells_eq v) hb4)), ⟨.inr zoa, ⟨.inr zoa, trivial⟩⟩⟩) (trivial) ?_
  refine yEN rfl rfl rfl (zoa) (⟨.inl rfl, ⟨.inl rfl, ⟨.inl rfl, trivial⟩⟩⟩) (⟨rfl, trivial⟩) ?_
  refine zd1 ?_
  refine RP.nil rfl ?_
  refine AWp_seq ?_
  refine AWp_join (ι := Bool) (fun b => b = decide (¬ v.kind = 5 ∨ (jfB v (ba nm) = false ∧ (¬ op = 1 ∨ last = false)))) (fun b => ⟨[], [(0, .int .i64 op), (2, .sl f 1 (srow (nm :: r))), (5, .ptr (σ.length + 0) 0), (7, .ptr (σ.length + 1) 0), (8, .ptr (σ.length + 2) 0), (9, .int .i64 0), (10, .ptr (σ.length + 3) 0), (11, .bool last), (19, .bool (jfB v (ba nm))), (154, .bool b)]⟩) (fun b => σ ++ [.box [.int .i64 v.kind, .bool v.b, .bool v.n.neg, .str v.n.digits, .int .i64 v.n.exp, .str v.s, .sl false 8 (lcells v.l), .sl false 9 (mcells v.m)], .box [.int .i64 x.kind, .bool x.b, .bool x.n.neg, .str x.n.digits, .int .i64 x.n.exp, .str x.s, .sl false 8 (lcells x.l), .sl false 9 (mcells x.m)], .box [.int .i64 0, .bool false, .bool false, .str ⟨#[]⟩, .int .i64 0, .str ⟨#[]⟩, .nils, .nils], .box [.int .i64 v.kind, .bool v.b, .bool v.n.neg, .str v.n.digits, .int .i64 v.n.exp, .str v.s, .nils, .nils], .box [.int .i64 (jfD v (ba nm)).kind, .bool (jfD v (ba nm)).b, .bool (jfD v (ba nm)).n.neg, .str (jfD v (ba nm)).n.digits, .int .i64 (jfD v (ba nm)).n.exp, .str (jfD v (ba nm)).s, .sl false 8 (lcells (jfD v (ba nm)).l), .sl false 9 (mcells (jfD v (ba nm)).m)]]) ?_ (fun b hj => ?_)
  ·skip
   refine AWp_regL ?_
   refine zg4 ?_
   refine zsp 143 rfl (fun h2 => ?_) fun h2 => ?_
   ·rw [h2]; replace h2 := zcl h2
    refine zg10 ?_
    refine zg1 ?_
    refine zon ?_
    refine ⟨_, ?_, ⟨rfl, rfl, rfl, rfl, rfl, rfl, rfl, rfl, rfl, rfl, rfl, trivial⟩, rfl⟩
    simp_all
   ·rw [h2]; replace h2 := zcl h2
    refine zg3 ?_
    refine zsp 146 rfl (fun h3 => ?_) fun h3 => ?_
    ·rw [h3]; replace h3 := zcl h3
     refine zg3 ?_
     refine zsp 149 rfl (fun h4 => ?_) fun h4 => ?_
     ·rw [h4]; replace h4 := zcl h4
      refine zv5 ?_
      refine ⟨_, ?_, ⟨rfl, rfl, rfl, rfl, rfl, rfl, rfl, rfl, rfl, rfl, rfl, trivial⟩, rfl⟩
      simp_all
     ·rw [h4]; replace h4 := zcl h4
      refine zv5 ?_
      refine ⟨_, ?_, ⟨rfl, rfl, rfl, rfl, rfl, rfl, rfl, rfl, rfl, rfl, rfl, trivial⟩, rfl⟩
      simp_all
    ·rw [h3]; replace h3 := zcl h3
     refine zv8 ?_
     refine ⟨_, ?_, ⟨rfl, rfl, rfl, rfl, rfl, rfl, rfl, rfl, rfl, rfl, rfl, trivial⟩, rfl⟩
     simp_all
  ·skip
   subst hj
   refine AWp_cond rfl (fun h5 => ?_) (fun h5 => ?_)
   ·(try rw [h5]); replace h5 := zcl h5
    refine zw3 ?_
    refine AWp_boxLeO 2 (bs' := [.int .i64 vz.kind, .bool vz.b, .bool vz.n.neg, .str vz.n.digits, .int .i64 vz.n.exp, .str vz.s, .sl false 8 (lcells vz.l), .sl false 9 (mcells vz.m)]) rfl ⟨AVle.refl _, AVle.refl _, AVle.refl _, AVle.refl _, AVle.refl _, AVle.refl _, nilL, nilM, trivial⟩ ?_
    refine zrt ?_
    rw [jedM_no hlast hk4 (by simpa using h5), vcells_eq]
    exact RQ_ret (rkvs_cons (rkv_ck rfl rfl rfl) (rkvs_cons (rkv_t rfl) rfl)) hcl (by simp [rks, AV.lt, AV.ltL]) ⟨rfl, rfl⟩
   ·(try rw [h5]); replace h5 := zcl h5
    refine AWp_skip ?_
    refine AWp_seq ?_
    obtain ⟨hk5, hh⟩ := no5 (by simpa using h5)
    refine AWp_boxLeO 3 (bs' := [.int .i64 v.kind, .bool v.b, .bool v.n.neg, .str v.n.digits, .int .i64 v.n.exp, .str v.s, .sl false 8 (lcells []), .nils]) rfl ⟨AVle.refl _, AVle.refl _, AVle.refl _, AVle.refl _, AVle.refl _, AVle.refl _, nilL, AVle.refl _, trivial⟩ ?_
    refine AWp_ghostInO 3 7 9 5 rfl rfl rfl ?_
    refine AWp_regL ?_
    refine zv1 ?_
    refine AWp_seq ?_
    refine zw1 ?_
    refine AWp_block ?_
    -- loop 0 LIVE 0:param 2:param 5:box 7:box 8:alloc 9:assign 10:alloc 11:assign 20:assign 21:assign
    refine AWp_loop (ι := Nat × Bool × List BJ) (fun z => z.1 ≤ v.m.length ∧ z.2.2 ++ eM last op (ba nm) x (fun y => (jed op x r y).1) (v.m.drop z.1) z.2.1 = eM last op (ba nm) x (fun y => (jed op x r y).1) v.m false ∧ (last = false → ∀ p ∈ v.m.take z.1, p.1 = ba nm → (jed op x r p.2).2 = 0) ∧ z.2.2.length ≤ z.1 + (if z.2.1 = true then 1 else 0)) (fun z => ⟨[], [(0, .int .i64 op), (2, .sl f 1 (srow (nm :: r))), (5, .ptr (σ.length + 0) 0), (7, .ptr (σ.length + 1) 0), (8, .ptr (σ.length + 2) 0), (9, .int .i64 0), (10, .ptr (σ.length + 3) 0), (11, .bool last), (19, .bool (jfB v (ba nm))), (20, .bool z.2.1), (21, .int .i64 (z.1 : Int))]⟩) (fun z => σ ++ [.box [.int .i64 v.kind, .bool v.b, .bool v.n.neg, .str v.n.digits, .int .i64 v.n.exp, .str v.s, .sl false 8 (lcells v.l), .sl false 9 (mcells v.m)], .box [.int .i64 x.kind, .bool x.b, .bool x.n.neg, .str x.n.digits, .int .i64 x.n.exp, .str x.s, .sl false 8 (lcells x.l), .sl false 9 (mcells x.m)], .box [.int .i64 0, .bool false, .bool false, .str ⟨#[]⟩, .int .i64 0, .str ⟨#[]⟩, .nils, .nils], .box [.int .i64 v.kind, .bool v.b, .bool v.n.neg, .str v.n.digits, .int .i64 v.n.exp, .str v.s, .sl false 8 (lcells []), .arr (σ.length + 5) z.2.2.length 9 0 z.2.2.length], .box [.int .i64 (jfD v (ba nm)).kind, .bool (jfD v (ba nm)).b, .bool (jfD v (ba nm)).n.neg, .str (jfD v (ba nm)).n.digits, .int .i64 (jfD v (ba nm)).n.exp, .str (jfD v (ba nm)).s, .sl false 8 (lcells (jfD v (ba nm)).l), .sl false 9 (mcells (jfD v (ba nm)).m)], .arr 9 z.2.2.length (mcells z.2.2).flatten]) (fun z => v.m.length + 1 - z.1) ((0, false, [])) (⟨Nat.zero_le _, rfl, (fun _ p hp => by cases hp), Nat.zero_le _⟩) ?_ rfl (fun z hz => ?_)
    ·exact ⟨rfl, rfl, rfl, rfl, rfl, rfl, rfl, rfl, rfl, rfl, rfl, rfl, trivial⟩
    obtain ⟨i, put, acc⟩ := z
    obtain ⟨hi1, hi2, hi3, hi4⟩ := hz
    simp only at hi1 hi2 hi3 hi4 ⊢
    have hip : acc.length ≤ i + 1 := by split at hi4 <;> omega
    refine AWp_seq ?_
    refine zw5 ?_
    refine AWp_cond rfl (fun h6 => ?_) (fun h6 => ?_)
    ·(try rw [h6]); replace h6 := zcl h6
     refine AWp_skip ?_
     refine AWp_seq ?_
     refine AWp_block ?_
     refine AWp_join (ι := Unit) (fun b => True) (fun b => ⟨[], [(0, .int .i64 op), (2, .sl f 1 (srow (nm :: r))), (5, .ptr (σ.length + 0) 0), (7, .ptr (σ.length + 1) 0), (8, .ptr (σ.length + 2) 0), (9, .int .i64 0), (10, .ptr (σ.length + 3) 0), (11, .bool last), (19, .bool (jfB v (ba nm))), (20, .bool (put || eMh last op (ba nm) put v.m[i]?)), (21, .int .i64 (i : Int))]⟩) (fun b => σ ++ [.box [.int .i64 v.kind, .bool v.b, .bool v.n.neg, .str v.n.digits, .int .i64 v.n.exp, .str v.s, .sl false 8 (lcells v.l), .sl false 9 (mcells v.m)], .box [.int .i64 x.kind, .bool x.b, .bool x.n.neg, .str x.n.digits, .int .i64 x.n.exp, .str x.s, .sl false 8 (lcells x.l), .sl false 9 (mcells x.m)], .box [.int .i64 0, .bool false, .bool false, .str ⟨#[]⟩, .int .i64 0, .str ⟨#[]⟩, .nils, .nils], .box [.int .i64 v.kind, .bool v.b, .bool v.n.neg, .str v.n.digits, .int .i64 v.n.exp, .str v.s, .sl false 8 (lcells []), .arr (σ.length + 5) (acc ++ eMn last op (ba nm) x put v.m[i]?).length 9 0 (acc ++ eMn last op (ba nm) x put v.m[i]?).length], .box [.int .i64 (jfD v (ba nm)).kind, .bool (jfD v (ba nm)).b, .bool (jfD v (ba nm)).n.neg, .str (jfD v (ba nm)).n.digits, .int .i64 (jfD v (ba nm)).n.exp, .str (jfD v (ba nm)).s, .sl false 8 (lcells (jfD v (ba nm)).l), .sl false 9 (mcells (jfD v (ba nm)).m)], .arr 9 (acc ++ eMn last op (ba nm) x put v.m[i]?).length (mcells (acc ++ eMn last op (ba nm) x put v.m[i]?)).flatten]) ?_ (fun b hj => ?_)
     ·skip
      refine zu2 ?_
      refine zsp 164 rfl (fun h7 => ?_) fun h7 => ?_
      ·rw [h7]; replace h7 := zcl h7
       subst h7
       refine zg4 ?_
       refine zsp 168 rfl (fun h8 => ?_) fun h8 => ?_
       ·rw [h8]; replace h8 := zcl h8
        refine zv3 ?_
        refine AWp_cond rfl (fun h9 => ?_) (fun h9 => ?_)
        ·(try rw [h9]); replace h9 := zcl h9
         refine zw5 ?_
         refine AWp_cond rfl (fun h10 => ?_) (fun h10 => ?_)
         ·(try rw [h10]); replace h10 := zcl h10
          refine AWp_seq ?_
          refine AWp_drawL #[0, 1, 0, 4, 12, 0, 60, 124, 255, 511, 1023] Tryd.mixed (by decide +kernel) (by decide +kernel) ?_
          refine zd1 ?_
          refine zp1 ?_
          refine zd1 ?_
          refine yA rfl rfl (fun _ => op_indexAddr rfl Tryd.underlying64 Tryd.sizeOf9 rfl rfl (by omega) (rfl)) ?_
          refine zp2 ?_
          refine zd1 ?_
          refine yA rfl rfl (fun _ => op_buildSlice [[_, _, _, _, _, _, _, _, _]] rfl Tryd.underlying26 Tryd.sizeOf112 Tryd.zeroValue112 rfl (by decide) (by decide) rfl rfl rfl rfl rfl) ?_
          refine yE rfl rfl (op_appendArrT rfl 5 (sz := 9) (m := 1) (len := acc.length) (cs := _) rfl (.inr ⟨_, rfl⟩) Tryd.underlying26 Tryd.underlying26 Tryd.type112 rfl rfl rfl (by decide) rfl rfl (mflat_len _).symm rfl rfl rfl (by show (acc.length + 1) * 128 ≤ _; omega) (by omega) rfl) (⟨.inl rfl, ⟨.inl rfl, ⟨.inl rfl, trivial⟩⟩⟩) (trivial) ?_
          refine zd1 ?_
          refine yEN rfl rfl rfl (op_storeO (r := [.int .i64 v.kind, .bool v.b, .bool v.n.neg, .str v.n.digits, .int .i64 v.n.exp, .str v.s, .sl false 8 (lcells []), .arr (σ.length + 5) (acc.length + 1) 9 0 (acc.length + 1)]) rfl Tryd.sizeOf26 rfl rfl rfl rfl rfl (by decide)) (⟨.inl rfl, ⟨.inl rfl, ⟨.inl rfl, trivial⟩⟩⟩) (⟨rfl, trivial⟩) ?_
          refine RP.nil rfl ?_
          refine AWp_regL ?_
          refine zv1 ?_
          have he : eMh true op (ba nm) put v.m[i]? = true := eMh_end (List.getElem?_eq_none (by omega)) rfl h8 (by simpa using h9)
          obtain ⟨e1, e2⟩ := eMn_y (x := x) he
          refine ⟨(), trivial, ⟨rfl, rfl, rfl, rfl, rfl, rfl, rfl, rfl, rfl, rfl, by rw [e2]; rfl, rfl, trivial⟩, ?_⟩
          rw [e1, mcells_snoc, len_snoc, mrow, vcells_eq x]; rfl
         ·(try rw [h10]); replace h10 := zcl h10
          obtain ⟨q, hq⟩ : ∃ q, v.m[i]? = some q := ⟨_, List.getElem?_eq_getElem (show i < v.m.length by omega)⟩
          refine AWp_seq ?_
          refine AWp_drawL #[0, 1, 0, 7, 15, 31, 0, 64, 192, 511] Tryd.mixed (by decide +kernel) (by decide +kernel) ?_
          refine zd1 ?_
          refine zp1 ?_
          refine zd3 ?_
          refine zp1 ?_
          refine zd1 ?_
          refine yA rfl rfl (fun _ => op_indexAddr rfl Tryd.underlying64 Tryd.sizeOf9 rfl rfl (by omega) (rfl)) ?_
          refine zp1 ?_
          refine zd1 ?_
          refine RP.nil rfl ?_
          refine AWp_cond rfl (fun h11 => ?_) (fun h11 => ?_)
          ·(try rw [h11]); replace h11 := zcl h11
           refine AWp_seq ?_
           refine AWp_drawL #[0, 1, 0, 4, 12, 0, 60, 124, 255, 511, 1023] Tryd.mixed (by decide +kernel) (by decide +kernel) ?_
           refine zd1 ?_
           refine zp1 ?_
           refine zd1 ?_
           refine yA rfl rfl (fun _ => op_indexAddr rfl Tryd.underlying64 Tryd.sizeOf9 rfl rfl (by omega) (rfl)) ?_
           refine zp2 ?_
           refine zd1 ?_
           refine yA rfl rfl (fun _ => op_buildSlice [[_, _, _, _, _, _, _, _, _]] rfl Tryd.underlying26 Tryd.sizeOf112 Tryd.zeroValue112 rfl (by decide) (by decide) rfl rfl rfl rfl rfl) ?_
           refine yE rfl rfl (op_appendArrT rfl 5 (sz := 9) (m := 1) (len := acc.length) (cs := _) rfl (.inr ⟨_, rfl⟩) Tryd.underlying26 Tryd.underlying26 Tryd.type112 rfl rfl rfl (by decide) rfl rfl (mflat_len _).symm rfl rfl rfl (by show (acc.length + 1) * 128 ≤ _; omega) (by omega) rfl) (⟨.inl rfl, ⟨.inl rfl, ⟨.inl rfl, trivial⟩⟩⟩) (trivial) ?_
           refine zd1 ?_
           refine yEN rfl rfl rfl (op_storeO (r := [.int .i64 v.kind, .bool v.b, .bool v.n.neg, .str v.n.digits, .int .i64 v.n.exp, .str v.s, .sl false 8 (lcells []), .arr (σ.length + 5) (acc.length + 1) 9 0 (acc.length + 1)]) rfl Tryd.sizeOf26 rfl rfl rfl rfl rfl (by decide)) (⟨.inl rfl, ⟨.inl rfl, ⟨.inl rfl, trivial⟩⟩⟩) (⟨rfl, trivial⟩) ?_
           refine RP.nil rfl ?_
           refine AWp_regL ?_
           refine zv1 ?_
           have he : eMh true op (ba nm) put v.m[i]? = true := (eMh_at hq rfl h8 (by simpa using h9)).trans (by simpa using h11)
           obtain ⟨e1, e2⟩ := eMn_y (x := x) he
           refine ⟨(), trivial, ⟨rfl, rfl, rfl, rfl, rfl, rfl, rfl, rfl, rfl, rfl, by rw [e2]; rfl, rfl, trivial⟩, ?_⟩
           rw [e1, mcells_snoc, len_snoc, mrow, vcells_eq x]; rfl
          ·(try rw [h11]); replace h11 := zcl h11
           refine AWp_skip ?_
           have he : eMh true op (ba nm) put v.m[i]? = false := (eMh_at hq rfl h8 (by simpa using h9)).trans (by simpa using h11)
           obtain ⟨e1, e2⟩ := eMn_n (x := x) he
           refine ⟨(), trivial, ⟨rfl, rfl, rfl, rfl, rfl, rfl, rfl, rfl, rfl, rfl, by rw [e2]; rfl, rfl, trivial⟩, ?_⟩
           rw [e1, List.append_nil]
        ·(try rw [h9]); replace h9 := zcl h9
         refine AWp_skip ?_
         have he : eMh true op (ba nm) put v.m[i]? = false := eMh_no (.inr (.inr (by simpa using h9)))
         obtain ⟨e1, e2⟩ := eMn_n (x := x) he
         refine ⟨(), trivial, ⟨rfl, rfl, rfl, rfl, rfl, rfl, rfl, rfl, rfl, rfl, by rw [e2]; rfl, rfl, trivial⟩, ?_⟩
         rw [e1, List.append_nil]
       ·rw [h8]; replace h8 := zcl h8
        refine zv3 ?_
        refine AWp_condF rfl ?_
        refine AWp_skip ?_
        have he : eMh true op (ba nm) put v.m[i]? = false := eMh_no (.inr (.inl h8))
        obtain ⟨e1, e2⟩ := eMn_n (x := x) he
        refine ⟨(), trivial, ⟨rfl, rfl, rfl, rfl, rfl, rfl, rfl, rfl, rfl, rfl, by rw [e2]; rfl, rfl, trivial⟩, ?_⟩
        rw [e1, List.append_nil]
      ·rw [h7]; replace h7 := zcl h7
       subst h7
       refine zv7 ?_
       refine AWp_condF rfl ?_
       refine AWp_skip ?_
       have he : eMh false op (ba nm) put v.m[i]? = false := eMh_no (.inl rfl)
       obtain ⟨e1, e2⟩ := eMn_n (x := x) he
       refine ⟨(), trivial, ⟨rfl, rfl, rfl, rfl, rfl, rfl, rfl, rfl, rfl, rfl, by rw [e2]; rfl, rfl, trivial⟩, ?_⟩
       rw [e1, List.append_nil]
     ·skip
      have hbd := eMn_bd (last := last) (op := op) (key := ba nm) (x := x) (put := put) v.m[i]?
      have hlen : (acc ++ eMn last op (ba nm) x put v.m[i]?).length = acc.length + (eMn last op (ba nm) x put v.m[i]?).length := List.length_append
      have hB : (acc ++ eMn last op (ba nm) x put v.m[i]?).length ≤ i + (if (put || eMh last op (ba nm) put v.m[i]?) = true then 1 else 0) := by omega
      have hB1 : (acc ++ eMn last op (ba nm) x put v.m[i]?).length ≤ i + 1 := by split at hB <;> omega
      clear hbd hlen
      refine AWp_seq ?_
      refine zw5 ?_
      refine AWp_cond rfl (fun h12 => ?_) (fun h12 => ?_)
      ·(try rw [h12]); replace h12 := zcl h12
       refine AWp_exit ?_
       refine AWp_seq ?_
       have hin : v.m[i]? = none := List.getElem?_eq_none (by omega)
       have hMM : (acc ++ eMn last op (ba nm) x put v.m[i]?) = eM last op (ba nm) x (fun y => (jed op x r y).1) v.m false := by rw [← hi2, eM_end hin]
       refine AWp_freezeInO 3 7 5 (acc ++ eMn last op (ba nm) x put v.m[i]?).length 9 (acc ++ eMn last op (ba nm) x put v.m[i]?).length rfl rfl rfl (mcells (acc ++ eMn last op (ba nm) x put v.m[i]?)) rfl (mrows_len _) (mcells_length _) (by decide) ?_
       refine AWp_regL ?_
       refine zv3 ?_
       refine zrt ?_
       rw [jedM_ok hlast hk4 hk5 hh (eBad_all (fun hl p hp hk => hi3 hl p (by rw [List.take_of_length_le (by omega)]; exact hp) hk)), ← hMM, vcells_eq]
       exact RQ_ret (rkvs_cons (rkv_ck rfl rfl rfl) (rkvs_cons (rkv_t rfl) rfl)) hcl (by simp [rks, AV.lt, AV.ltL]) ⟨rfl, rfl⟩
      ·(try rw [h12]); replace h12 := zcl h12
       obtain ⟨q, hq⟩ : ∃ q, v.m[i]? = some q := ⟨_, List.getElem?_eq_getElem (show i < v.m.length by omega)⟩
       refine AWp_skip ?_
       refine zu4 ?_
       rw [vcells_eq q.2]
       refine zv3 ?_
       refine AWp_seq ?_
       refine AWp_seq ?_
       refine AWp_drawL #[0, 1, 0, 4, 12, 31] Tryd.mixed (by decide +kernel) (by decide +kernel) ?_
       refine zd1 ?_
       refine zp1 ?_
       refine zd1 ?_
       refine yA rfl rfl (fun _ => op_indexAddr rfl Tryd.underlying64 Tryd.sizeOf9 rfl rfl (by omega) (rfl)) ?_
       refine zp1 ?_
       refine zd1 ?_
       refine RP.nil rfl ?_
       refine AWp_cond rfl (fun h13 => ?_) (fun h13 => ?_)
       ·(try rw [h13]); replace h13 := zcl h13
        refine AWp_seq ?_
        refine zw1 ?_
        refine AWp_cond rfl (fun h14 => ?_) (fun h14 => ?_)
        ·(try rw [h14]); replace h14 := zcl h14
         subst h14
         refine AWp_exit ?_
         refine AWp_regL ?_
         refine zv3 ?_
         refine ⟨(i + 1, (put || eMh true op (ba nm) put v.m[i]?), (acc ++ eMn true op (ba nm) x put v.m[i]?)), σ.length + 6, ⟨by simp only; omega, ?_, ?_, ?_⟩, by simp only; omega, by simp, ⟨rfl, rfl, rfl, rfl, rfl, rfl, rfl, rfl, rfl, rfl, rfl, rfl, trivial⟩, closed_own 6 hcl ?_, ?_, ?_⟩
         ·simp only; rw [← hi2, eM_step hq, if_pos h13, if_pos rfl]; simp
         ·intro hl; cases hl
         ·simp only []; omega
         ·simp [ownLt, AO.cells, AV.ltL, AV.lt, ltL_append, mflat_lt]
         ·simp [ltE, AV.lt, AV.ltL]
         ·refine (take_own 6).trans ?_
          rfl
        ·(try rw [h14]); replace h14 := zcl h14
         subst h14
         refine AWp_skip ?_
         refine AWp_seq ?_
         refine AWp_drawL #[0, 0, 2, 0, 8, 0, 63, 127, 255, 255, 0, 1535, 4095] Tryd.mixed (by decide +kernel) (by decide +kernel) ?_
         refine zd2 ?_
         refine zp1 ?_
         refine zd1 ?_
         refine yA rfl rfl (fun _ => (by first | exact op_sliceSl _ _ rfl Tryd.underlying64 Tryd.sizeOf9 rfl (by first | exact ⟨_, rfl⟩ | rfl) (by first | exact ⟨_, rfl⟩ | rfl) (by omega) (by omega) (by omega) | exact op_sliceArr _ _ rfl Tryd.underlying64 Tryd.sizeOf9 rfl GET (by first | exact ⟨_, rfl⟩ | rfl) (by first | exact ⟨_, rfl⟩ | rfl) (by omega) (by omega) (by omega))) ?_
         refine zp1 ?_
         refine yP rfl rfl (zc rfl (ih q.2 _ _ _ (vcells_eq q.2) (srow_tail nm r) (mb_get hb6 hq).2)) (trivial) ?_
         rw [vcells_eq (jed op x r q.2).1]
         refine zd3 ?_
         refine yE rfl rfl (zoa) (⟨.inr (by rw [← vcells_eq (jed op x r q.2).1]; exact zc rfl (ih q.2 _ _ _ (vcells_eq q.2) (srow_tail nm r) (mb_get hb6 hq).2)), ⟨.inr zoa, ⟨.inr zoa, trivial⟩⟩⟩) (trivial) ?_
         refine yEN rfl rfl rfl (zoa) (⟨.inl rfl, ⟨.inl rfl, ⟨.inl rfl, trivial⟩⟩⟩) (⟨rfl, trivial⟩) ?_
         refine zd1 ?_
         refine RP.nil rfl ?_
         refine AWp_seq ?_
         refine zw2 ?_
         refine AWp_cond rfl (fun h15 => ?_) (fun h15 => ?_)
         ·(try rw [h15]); replace h15 := zcl h15
          refine zw4 ?_
          refine AWp_boxLeO 2 (bs' := [.int .i64 vz.kind, .bool vz.b, .bool vz.n.neg, .str vz.n.digits, .int .i64 vz.n.exp, .str vz.s, .sl false 8 (lcells vz.l), .sl false 9 (mcells vz.m)]) rfl ⟨AVle.refl _, AVle.refl _, AVle.refl _, AVle.refl _, AVle.refl _, AVle.refl _, nilL, nilM, trivial⟩ ?_
          refine zrt ?_
          rw [jedM_bad hlast hk4 hk5 hh (eBad_at (g := fun y => (jed op x r y).2) hq (hi3 rfl) h13 h15) h15, vcells_eq]
          exact RQ_ret (rkvs_cons (rkv_ck rfl rfl rfl) (rkvs_cons (rkv_t rfl) rfl)) hcl (by simp [rks, AV.lt, AV.ltL]) ⟨rfl, rfl⟩
         ·(try rw [h15]); replace h15 := zcl h15
          refine AWp_skip ?_
          refine AWp_regL ?_
          refine zv3 ?_
          refine AWp_regL ?_
          refine zg3 ?_
          refine zt rfl (op_buildSlice [[_, _, _, _, _, _, _, _, _]] rfl Tryd.underlying26 Tryd.sizeOf112 Tryd.zeroValue112 rfl (by decide) (by decide) rfl rfl rfl rfl rfl) ?_
          refine zt rfl ((by first | exact op_appendArrT rfl 5 (sz := 9) (m := 1) (len := (acc ++ eMn last op (ba nm) x put v.m[i]?).length) (cs := _) rfl (.inr ⟨_, rfl⟩) Tryd.underlying26 Tryd.underlying26 Tryd.type112 rfl rfl rfl (by decide) rfl rfl (mflat_len _).symm rfl rfl rfl (by show ((acc ++ eMn last op (ba nm) x put v.m[i]?).length + 1) * 128 ≤ _; omega) (by omega) rfl | exact op_appendArrT rfl 5 (sz := 9) (m := 1) (len := (acc ++ eMn false op (ba nm) x put v.m[i]?).length) (cs := _) rfl (.inr ⟨_, rfl⟩) Tryd.underlying26 Tryd.underlying26 Tryd.type112 rfl rfl rfl (by decide) rfl rfl (mflat_len _).symm rfl rfl rfl (by show ((acc ++ eMn false op (ba nm) x put v.m[i]?).length + 1) * 128 ≤ _; omega) (by omega) rfl)) ?_
          refine zg1 ?_
          refine ztN rfl rfl ((by first | exact op_storeO (r := [.int .i64 v.kind, .bool v.b, .bool v.n.neg, .str v.n.digits, .int .i64 v.n.exp, .str v.s, .sl false 8 (lcells []), .arr (σ.length + 5) ((acc ++ eMn last op (ba nm) x put v.m[i]?).length + 1) 9 0 ((acc ++ eMn last op (ba nm) x put v.m[i]?).length + 1)]) rfl Tryd.sizeOf26 rfl rfl rfl rfl rfl (by decide) | exact op_storeO (r := [.int .i64 v.kind, .bool v.b, .bool v.n.neg, .str v.n.digits, .int .i64 v.n.exp, .str v.s, .sl false 8 (lcells []), .arr (σ.length + 5) ((acc ++ eMn false op (ba nm) x put v.m[i]?).length + 1) 9 0 ((acc ++ eMn false op (ba nm) x put v.m[i]?).length + 1)]) rfl Tryd.sizeOf26 rfl rfl rfl rfl rfl (by decide))) ?_
          refine zon ?_
          refine AWp_regL ?_
          refine zv3 ?_
          refine ⟨(i + 1, (put || eMh false op (ba nm) put v.m[i]?), (acc ++ eMn false op (ba nm) x put v.m[i]?) ++ [(q.1, (jed op x r q.2).1)]), σ.length + 6, ⟨by simp only; omega, ?_, ?_, ?_⟩, by simp only; omega, by simp, ⟨rfl, rfl, rfl, rfl, rfl, rfl, rfl, rfl, rfl, rfl, rfl, rfl, trivial⟩, closed_own 6 hcl ?_, ?_, ?_⟩
          ·simp only; rw [← hi2, eM_step hq, if_pos h13, if_neg (by decide)]; simp
          ·intro hl p hp hk
           rcases mem_take_succ hq hp with hp | rfl
           ·exact hi3 rfl p hp hk
           ·exact h15
          ·simp only [len_snoc]; omega
          ·simp [ownLt, AO.cells, AV.ltL, AV.lt, ltL_append, mflat_lt]
          ·simp [ltE, AV.lt, AV.ltL]
          ·refine (take_own 6).trans ?_
           simp only; rw [mcells_snoc, len_snoc, mrow, vcells_eq (jed op x r q.2).1]; rfl
       ·(try rw [h13]); replace h13 := zcl h13
        refine AWp_skip ?_
        refine AWp_regL ?_
        refine zg3 ?_
        refine zt rfl (op_buildSlice [[_, _, _, _, _, _, _, _, _]] rfl Tryd.underlying26 Tryd.sizeOf112 Tryd.zeroValue112 rfl (by decide) (by decide) rfl rfl rfl rfl rfl) ?_
        refine zt rfl ((by first | exact op_appendArrT rfl 5 (sz := 9) (m := 1) (len := (acc ++ eMn last op (ba nm) x put v.m[i]?).length) (cs := _) rfl (.inr ⟨_, rfl⟩) Tryd.underlying26 Tryd.underlying26 Tryd.type112 rfl rfl rfl (by decide) rfl rfl (mflat_len _).symm rfl rfl rfl (by show ((acc ++ eMn last op (ba nm) x put v.m[i]?).length + 1) * 128 ≤ _; omega) (by omega) rfl | exact op_appendArrT rfl 5 (sz := 9) (m := 1) (len := (acc ++ eMn false op (ba nm) x put v.m[i]?).length) (cs := _) rfl (.inr ⟨_, rfl⟩) Tryd.underlying26 Tryd.underlying26 Tryd.type112 rfl rfl rfl (by decide) rfl rfl (mflat_len _).symm rfl rfl rfl (by show ((acc ++ eMn false op (ba nm) x put v.m[i]?).length + 1) * 128 ≤ _; omega) (by omega) rfl)) ?_
        refine zg1 ?_
        refine ztN rfl rfl ((by first | exact op_storeO (r := [.int .i64 v.kind, .bool v.b, .bool v.n.neg, .str v.n.digits, .int .i64 v.n.exp, .str v.s, .sl false 8 (lcells []), .arr (σ.length + 5) ((acc ++ eMn last op (ba nm) x put v.m[i]?).length + 1) 9 0 ((acc ++ eMn last op (ba nm) x put v.m[i]?).length + 1)]) rfl Tryd.sizeOf26 rfl rfl rfl rfl rfl (by decide) | exact op_storeO (r := [.int .i64 v.kind, .bool v.b, .bool v.n.neg, .str v.n.digits, .int .i64 v.n.exp, .str v.s, .sl false 8 (lcells []), .arr (σ.length + 5) ((acc ++ eMn false op (ba nm) x put v.m[i]?).length + 1) 9 0 ((acc ++ eMn false op (ba nm) x put v.m[i]?).length + 1)]) rfl Tryd.sizeOf26 rfl rfl rfl rfl rfl (by decide))) ?_
        refine zon ?_
        refine AWp_regL ?_
        refine zv3 ?_
        refine ⟨(i + 1, (put || eMh last op (ba nm) put v.m[i]?), (acc ++ eMn last op (ba nm) x put v.m[i]?) ++ [q]), σ.length + 6, ⟨by simp only; omega, ?_, ?_, ?_⟩, by simp only; omega, by simp, ⟨rfl, rfl, rfl, rfl, rfl, rfl, rfl, rfl, rfl, rfl, rfl, rfl, trivial⟩, closed_own 6 hcl ?_, ?_, ?_⟩
        ·simp only; rw [← hi2, eM_step hq, if_neg h13]; simp
        ·intro hl p hp hk
         rcases mem_take_succ hq hp with hp | rfl
         ·exact hi3 hl p hp hk
         ·exact absurd hk h13
        ·simp only [len_snoc]; omega
        ·simp [ownLt, AO.cells, AV.ltL, AV.lt, ltL_append, mflat_lt]
        ·simp [ltE, AV.lt, AV.ltL]
        ·refine (take_own 6).trans ?_
         simp only; rw [mcells_snoc, len_snoc, mrow, vcells_eq q.2]; rfl
    ·(try rw [h6]); replace h6 := zcl h6
     exfalso; omega
end Lg
namespace Lg
open Go
/-- A member more, whose name opens with z. -/
def zkey (key : ByteArray) : BL := 122 :: key.data.toList
def jv1 : JV := .mk 1 false ⟨false, ⟨#[]⟩, 0⟩ ⟨#[]⟩ [] []
def edV (key : ByteArray) (v : JV) : JV := (jed 1 jv1 [zkey key] v).1
def jv4 (l : List JV) : JV := .mk 4 false ⟨false, ⟨#[]⟩, 0⟩ ⟨#[]⟩ l []
theorem zkey_ba (key : ByteArray) : ba (zkey key) = ⟨#[122]⟩ ++ key := by
  apply ba_ext
  rw [ba_toList, ByteArray.data_append, Array.toList_append]; rfl
theorem eM_find {op : Int} {key k : ByteArray} {x : JV} {f : JV → JV} (hk : ¬ k = key) : ∀ (m : List BJ) (put : Bool), (eM true op key x f m put).find? (fun q => decide (q.1 = k)) = m.find? (fun q => decide (q.1 = k)) := by
  have hk' : ¬ key = k := fun h => hk h.symm
  intro m
  induction m with
  | nil => intro put; rw [eM]; split <;> simp [hk']
  | cons q r ih =>
    intro put
    rw [eM, List.find?_append, List.find?_append, ih]
    have h1 : (if eMi true op key q.1 put = true then [(key, x)] else []).find? (fun q => decide (q.1 = k)) = none := by split <;> simp [hk']
    rw [h1, Option.none_or]
    by_cases hq : q.1 = key
    · rw [if_pos hq, if_pos rfl, List.find?_cons_of_neg (by simp [hq, hk'])]; simp
    · rw [if_neg hq, List.find?_cons]
      simp only [List.find?_cons, List.find?_nil]
      cases h2 : decide (q.1 = k) <;> simp
theorem zkey_ne {key k : ByteArray} (h : k.data.toList.head? ≠ some 122) : ¬ k = ba (zkey key) := fun e => by
  apply h; rw [e, ba_toList]; rfl
theorem edV_5 {key : ByteArray} {v : JV} (h5 : v.kind = 5) : jed 1 jv1 [zkey key] v = (.mk v.kind v.b v.n v.s [] (eM true 1 (ba (zkey key)) jv1 (fun y => (jed 1 jv1 [] y).1) v.m false), 0) := by
  exact jedM_ok (last := true) rfl (by omega) h5 (.inr ⟨rfl, rfl⟩) rfl
theorem edV_find {key k : ByteArray} {v : JV} (h5 : v.kind = 5) (h : k.data.toList.head? ≠ some 122) : jfind (edV key v) k = jfind v k := by
  unfold edV; rw [edV_5 h5]
  unfold jfind
  rw [if_pos h5, if_pos (show (JV.mk v.kind v.b v.n v.s [] _).kind = 5 from h5)]
  show Option.map _ (List.find? _ (eM true 1 (ba (zkey key)) jv1 _ v.m false)) = _
  rw [eM_find (zkey_ne h)]
theorem jop_congr {v w : JV} (h : ∀ k ∈ [bOp, bPath, bFrom, bValue], jfind v k = jfind w k) : jop v = jop w := by
  have h1 := h bOp (by simp)
  have h2 := h bPath (by simp)
  have h3 := h bFrom (by simp)
  have h4 := h bValue (by simp)
  unfold jop jopn jptB jptN jfB jfD
  rw [h1, h2, h3, h4]
theorem jop_k5 {v : JV} {o : JOp} (h : jop v = some o) : v.kind = 5 := by
  by_cases h0 : jopn v = 0
  · rw [jop_n1 h0] at h; cases h
  · unfold jopn at h0
    split at h0
    · rename_i hb
      have hb := hb.1
      unfold jfB jfind at hb
      split at hb
      · assumption
      · cases hb
    · exact absurd rfl h0
theorem edV_jop {key : ByteArray} {v : JV} (h5 : v.kind = 5) : jop (edV key v) = jop v :=
  jop_congr fun k hk => edV_find h5 (by
    simp only [List.mem_cons, List.not_mem_nil, or_false] at hk
    rcases hk with rfl | rfl | rfl | rfl <;> decide)
theorem edV_0 {key : ByteArray} {v : JV} (h5 : v.kind = 5) : (jed 1 jv1 [zkey key] v).2 = 0 := by rw [edV_5 h5]
theorem jops_ed (key : ByteArray) : ∀ {l : List JV} {os : List JOp}, jops l = some os → jops (l.map (edV key)) = some os
  | [], os, h => h
  | v :: r, os, h => by
    rw [jops] at h
    cases hj : jop v with
    | none => rw [hj] at h; cases h
    | some o =>
      rw [hj] at h
      simp only [Option.map_eq_some_iff] at h
      obtain ⟨os', h1, rfl⟩ := h
      rw [List.map_cons, jops, edV_jop (jop_k5 hj), hj, jops_ed key h1]; rfl
theorem eM_len {op : Int} {key : ByteArray} {x : JV} {f : JV → JV} : ∀ (m : List BJ) (put : Bool), (eM true op key x f m put).length ≤ m.length + (if put = true then 0 else 1)
  | [], put => by rw [eM]; cases put <;> simp <;> split <;> simp
  | q :: r, put => by
    have ih := eM_len (op := op) (key := key) (x := x) (f := f) r (put || eMi true op key q.1 put)
    rw [eM, List.length_append, List.length_append, List.length_cons]
    have h1 : (if q.1 = key then (if true = true then [] else [(q.1, f q.2)]) else [q]).length ≤ 1 := by split <;> simp
    have h2 : (if eMi true op key q.1 put = true then [(key, x)] else []).length ≤ (if eMi true op key q.1 put = true then 1 else 0) := by split <;> simp
    have h3 : put = true → eMi true op key q.1 put = false := fun h => by simp [eMi, h]
    cases put <;> cases h4 : eMi true op key q.1 _ <;> simp_all <;> omega
section
variable [GLay]
theorem mb_app {m n : List BJ} (h : mb m) (k : mb n) : mb (m ++ n) := by
  induction m with
  | nil => exact k
  | cons q r ih => obtain ⟨a, b⟩ := q; exact ⟨h.1, h.2.1, ih h.2.2⟩
theorem eM_mb {op : Int} {key : ByteArray} {x : JV} {f : JV → JV} (hk : key.size ≤ 1000000) (hx : jb x) : ∀ (m : List BJ) (put : Bool), mb m → mb (eM true op key x f m put)
  | [], put, h => by
    rw [eM]; split
    · exact ⟨hk, hx, trivial⟩
    · trivial
  | (a, b) :: r, put, h => by
    rw [eM]
    refine mb_app ?_ (mb_app ?_ (eM_mb hk hx r _ h.2.2))
    · split
      · exact ⟨hk, hx, trivial⟩
      · trivial
    · split
      · trivial
      · exact ⟨h.1, h.2.1, trivial⟩
theorem edV_jb {key : ByteArray} {v : JV} (h5 : v.kind = 5) (h : jb v) (hk : key.size ≤ 100) (hm : v.m.length ≤ 999999) : jb (edV key v) := by
  have hv := (jb_eq v).1 h
  unfold edV; rw [edV_5 h5, jb_eq]
  have h1 := eM_len (op := 1) (key := ba (zkey key)) (x := jv1) (f := fun y => (jed 1 jv1 [] y).1) v.m false
  have h2 : (ba (zkey key)).size ≤ 1000000 := by
    rw [ba_size, zkey, List.length_cons]
    have : key.data.toList.length = key.size := Array.length_toList ..
    omega
  refine ⟨hv.1, hv.2.1, Nat.zero_le _, ?_, trivial, eM_mb h2 (jb_nil _ _ _ _ (Nat.zero_le _) (Nat.zero_le _)) _ _ hv.2.2.2.2.2⟩
  show (eM true 1 (ba (zkey key)) jv1 _ v.m false).length ≤ _
  simp only [Bool.false_eq_true, if_false] at h1; omega
theorem jb4 {l : List JV} (h : lb l) (hl : l.length ≤ 1000000) : jb (jv4 l) := by
  rw [jb_eq]; exact ⟨Nat.zero_le _, Nat.zero_le _, hl, Nat.zero_le _, h, trivial⟩
theorem lb_app {l m : List JV} (h : lb l) (k : lb m) : lb (l ++ m) := by
  induction l with
  | nil => exact k
  | cons a r ih => exact ⟨h.1, ih h.2⟩
end
theorem jrd_inv {v : JV} (h : jrdE v = none) : v.kind = 4 ∧ v.l.length ≤ 100 ∧ jops v.l = some (jrd v) := by
  unfold jrdE at h
  split at h
  · rename_i hc
    unfold jrdC at hc
    split at hc
    · omega
    · rename_i h4
      have h4 : v.kind = 4 := Classical.byContradiction h4
      split at hc
      · omega
      · rename_i h100
        split at hc
        · omega
        · rename_i hj
          refine ⟨h4, by omega, ?_⟩
          unfold jrd
          rw [if_neg (by simp [h4]), if_neg h100]
          cases hv : jops v.l with
          | none => simp [hv] at hj
          | some os => rfl
  · cases h
end Lg
namespace Lg
open Go
theorem lflat_app (l m : List JV) : (lcells (l ++ m)).flatten = (lcells l).flatten ++ (lcells m).flatten := by
  rw [lcells_eq, lcells_eq, lcells_eq]; simp
theorem vcells_ones [GLay] (v : JV) : ones (vcells v) = true := by rw [vcells_eq]; rfl
theorem lflat_ones [GLay] (l : List JV) : ones (lcells l).flatten = true := by
  rw [ones_iff]; intro a ha
  obtain ⟨e, he, h⟩ := List.mem_flatten.1 ha
  rw [lcells_eq] at he
  obtain ⟨x, _, rfl⟩ := List.mem_map.1 he
  exact (ones_iff _).1 (vcells_ones x) a h
theorem both_many {l : List JV} (h : 100 < l.length) : jrdE (jv4 l) = some (100, 5) := by
  obtain ⟨_, h1, h2⟩ := jrd_many (v := jv4 l) rfl h
  rw [jrdE_s (by omega), h1, h2]
theorem both_ok {l : List JV} {os : List JOp} (h : jops l = some os) (hl : l.length ≤ 100) : jrdE (jv4 l) = none ∧ jrd (jv4 l) = os := by
  obtain ⟨h1, h2, _⟩ := jrd_ok (v := jv4 l) rfl hl h
  exact ⟨jrdE_n h2, h1⟩
theorem lb_of [GLay] {l : List JV} (h : ∀ x ∈ l, jb x) : lb l := by
  induction l with
  | nil => trivial
  | cons a r ih => exact ⟨h a (List.mem_cons_self ..), ih fun x hx => h x (List.mem_cons_of_mem _ hx)⟩
theorem lb_ed [GLay] {key : ByteArray} {a : JV} {os : List JOp} (hk : key.size ≤ 100) (ha : jb a) (hs : jsize a ≤ 2002) (h : jops a.l = some os) : lb (a.l.map (edV key)) := by
  refine lb_of fun x hx => ?_
  obtain ⟨e, he, rfl⟩ := List.mem_map.1 hx
  obtain ⟨i, hi⟩ := List.getElem?_of_mem he
  obtain ⟨o, ho, _⟩ := jops_get h hi
  have h1 := lsize_mem hi
  have h2 := jsize_eq a
  have h3 := msize_nn a.m
  have h4 := jsize_eq e
  have h5 := lsize_nn e.l
  have h6 := mlen_le e.m
  exact edV_jb (jop_k5 ho) (lb_get ((jb_eq a).1 ha).2.2.2.2.1 hi) hk (by omega)
theorem edmap_snoc {key : ByteArray} {l : List JV} {i : Nat} {e : JV} (h : l[i]? = some e) : (l.take (i + 1)).map (edV key) = (l.take i).map (edV key) ++ [edV key e] := by
  rw [ltake_succ h, List.map_append]; rfl
end Lg
set_option maxRecDepth 20000
set_option maxHeartbeats 4000000
namespace Lg
open Go Go.Proofs Go.RowKit
variable [GLay] [ML]
theorem one_c (v : JV) (cs : List AV) (σ : List AO) (hc : vcells v = cs) (hjb : jb v) : ACalls Tryd.prog 44 [.agg cs] σ (OpR v σ) := by
 have hmz := ((jb_eq v).1 hjb).2.2.2.1
 have hjp := ((jb_eq _).1 (jfD_jb (key := bPath) hjb)).2.1
 have hjf := ((jb_eq _).1 (jfD_jb (key := bFrom) hjb)).2.1
 refine ACalls_bodyC Tryd.func44 rfl Tryd.ntmps44 (by rw [Tryd.results44]; exact (.ck Tryd.isAgg92 Tryd.sizeOf92 (.t .nil))) (Nat.le_of_ble_eq_true rfl) (fun hcl hal => ?_)
 subst hc
 rw [vcells_eq v]
 have hor := opn_range (jfD v bOp).s
 refine zw3 ?_
 refine zu1 ?_
 refine zt rfl (zc rfl (findQ_c v bOp _ _ (vcells_eq v) hmz)) ?_
 rw [vcells_eq (jfD v bOp)]
 refine zv6 ?_
 refine AWp_seq ?_
 refine zu3 ?_
 refine zsp 15 rfl (fun h1 => ?_) fun h1 => ?_
 ·rw [h1]; replace h1 := zcl h1
  refine zv4 ?_
  refine AWp_condT rfl ?_
  refine zw3 ?_
  refine zrt ?_
  refine RQ_ret (rkvs_cons (rkv_ck rfl rfl rfl) (rkvs_cons (rkv_t rfl) rfl)) hcl (by simp [rks, AV.lt, AV.ltL]) ⟨rfl, _, ⟨0, [], [], vz⟩, false, rfl, oz, (fun h => by cases h), fun _ => jop_n1 (jopn_no (.inl (by simpa using h1)))⟩
 ·rw [h1]; replace h1 := zcl h1
  refine zv4 ?_
  refine AWp_cond rfl (fun h2 => ?_) (fun h2 => ?_)
  ·(try rw [h2]); replace h2 := zcl h2
   refine zw3 ?_
   refine zrt ?_
   refine RQ_ret (rkvs_cons (rkv_ck rfl rfl rfl) (rkvs_cons (rkv_t rfl) rfl)) hcl (by simp [rks, AV.lt, AV.ltL]) ⟨rfl, _, ⟨0, [], [], vz⟩, false, rfl, oz, (fun h => by cases h), fun _ => jop_n1 (jopn_no (.inr h2))⟩
  ·(try rw [h2]); replace h2 := zcl h2
   have hjo : jopn v = opn (jfD v bOp).s := jopn_eq (by simpa using h1) h2
   refine AWp_skip ?_
   refine zu2 ?_
   refine zt rfl (zc rfl (known_c (jfD v bOp).s _)) ?_
   refine zv5 ?_
   refine AWp_seq ?_
   refine zw2 ?_
   refine AWp_cond rfl (fun h3 => ?_) (fun h3 => ?_)
   ·(try rw [h3]); replace h3 := zcl h3
    refine zw3 ?_
    refine zrt ?_
    refine RQ_ret (rkvs_cons (rkv_ck rfl rfl rfl) (rkvs_cons (rkv_t rfl) rfl)) hcl (by simp [rks, AV.lt, AV.ltL]) ⟨rfl, _, ⟨0, [], [], vz⟩, false, rfl, oz, (fun h => by cases h), fun _ => jop_n1 (by rw [hjo]; simpa using h3)⟩
   ·(try rw [h3]); replace h3 := zcl h3
    refine AWp_skip ?_
    refine zw4 ?_
    refine AWp_seq ?_
    refine zu1 ?_
    refine zt rfl (zc rfl (pptrM_c v bPath _ _ (vcells_eq v) hmz hjp)) ?_
    refine zv6 ?_
    refine zw2 ?_
    refine AWp_cond rfl (fun h4 => ?_) (fun h4 => ?_)
    ·(try rw [h4]); replace h4 := zcl h4
     refine zw3 ?_
     refine zrt ?_
     refine RQ_ret (rkvs_cons (rkv_ck rfl rfl rfl) (rkvs_cons (rkv_t rfl) rfl)) hcl (by simp [rks, AV.lt, AV.ltL]) ⟨rfl, _, ⟨0, [], [], vz⟩, false, rfl, oz, (fun h => by cases h), fun _ => jop_n2 (by simpa using h4)⟩
    ·(try rw [h4]); replace h4 := zcl h4
     have hpb : jptB v bPath = true := by simpa using h4
     have h0 : ¬ opn (jfD v bOp).s = 0 := by simpa using h3
     refine AWp_skip ?_
     refine AWp_seq ?_
     refine zw1 ?_
     refine AWp_block ?_
     refine AWp_seq ?_
     refine zw2 ?_
     refine AWp_cond rfl (fun h5 => ?_) (fun h5 => ?_)
     ·(try rw [h5]); replace h5 := zcl h5
      refine AWp_skip ?_
      refine AWp_condT rfl ?_
      refine AWp_regL ?_
      refine zg1 ?_
      refine zt rfl (zc rfl (pptrM_c v bFrom _ _ (vcells_eq v) hmz hjf)) ?_
      refine zv6 ?_
      refine zw4 ?_
      refine zrt ?_
      refine RQ_ret (rkvs_cons (rkv_ck rfl rfl rfl) (rkvs_cons (rkv_t rfl) rfl)) hcl (by simp [rks, AV.lt, AV.ltL]) ⟨rfl, _, ⟨opn (jfD v bOp).s, jptN v bPath, jptN v bFrom, vz⟩, jptB v bFrom, rfl, ?_, ?_, ?_⟩
      ·rw [ocells_eq]; exact ⟨AVle.refl _, AVle.refl _, AVle.refl _, AVle.refl _, AVle.refl _, AVle.refl _, AVle.refl _, AVle.refl _, AVle.refl _, nilL, nilM, trivial⟩
      ·intro h; rw [jop_fr hpb (by rw [hjo]; omega), if_pos h, hjo]
      ·intro h; rw [jop_fr hpb (by rw [hjo]; omega), if_neg (by rw [h]; decide)]
     ·(try rw [h5]); replace h5 := zcl h5
      refine AWp_regL ?_
      refine zv2 ?_
      refine AWp_cond rfl (fun h6 => ?_) (fun h6 => ?_)
      ·(try rw [h6]); replace h6 := zcl h6
       refine AWp_regL ?_
       refine zg1 ?_
       refine zt rfl (zc rfl (pptrM_c v bFrom _ _ (vcells_eq v) hmz hjf)) ?_
       refine zv6 ?_
       refine zw4 ?_
       refine zrt ?_
       refine RQ_ret (rkvs_cons (rkv_ck rfl rfl rfl) (rkvs_cons (rkv_t rfl) rfl)) hcl (by simp [rks, AV.lt, AV.ltL]) ⟨rfl, _, ⟨opn (jfD v bOp).s, jptN v bPath, jptN v bFrom, vz⟩, jptB v bFrom, rfl, ?_, ?_, ?_⟩
       ·rw [ocells_eq]; exact ⟨AVle.refl _, AVle.refl _, AVle.refl _, AVle.refl _, AVle.refl _, AVle.refl _, AVle.refl _, AVle.refl _, AVle.refl _, nilL, nilM, trivial⟩
       ·intro h; rw [jop_fr hpb (by rw [hjo]; omega), if_pos h, hjo]
       ·intro h; rw [jop_fr hpb (by rw [hjo]; omega), if_neg (by rw [h]; decide)]
      ·(try rw [h6]); replace h6 := zcl h6
       refine AWp_seq ?_
       refine zw2 ?_
       refine AWp_cond rfl (fun h7 => ?_) (fun h7 => ?_)
       ·(try rw [h7]); replace h7 := zcl h7
        refine AWp_skip ?_
        refine AWp_condT rfl ?_
        refine AWp_regL ?_
        refine zg1 ?_
        refine zt rfl (zc rfl (findQ_c v bValue _ _ (vcells_eq v) hmz)) ?_
        rw [vcells_eq (jfD v bValue)]
        refine zv6 ?_
        refine zw4 ?_
        refine zrt ?_
        refine RQ_ret (rkvs_cons (rkv_ck rfl rfl rfl) (rkvs_cons (rkv_t rfl) rfl)) hcl (by simp [rks, AV.lt, AV.ltL]) ⟨rfl, _, ⟨opn (jfD v bOp).s, jptN v bPath, [], jfD v bValue⟩, jfB v bValue, rfl, ?_, ?_, ?_⟩
        ·rw [ocells_eq]; exact ⟨AVle.refl _, AVle.refl _, AVle.nils false 1, AVle.refl _, AVle.refl _, AVle.refl _, AVle.refl _, AVle.refl _, AVle.refl _, AVle.refl _, AVle.refl _, trivial⟩
        ·intro h; rw [jop_vl hpb (by rw [hjo]; omega) (by rw [hjo]; omega) (by rw [hjo]; omega), if_pos h, hjo]
        ·intro h; rw [jop_vl hpb (by rw [hjo]; omega) (by rw [hjo]; omega) (by rw [hjo]; omega), if_neg (by rw [h]; decide)]
       ·(try rw [h7]); replace h7 := zcl h7
        refine zw2 ?_
        refine AWp_cond rfl (fun h8 => ?_) (fun h8 => ?_)
        ·(try rw [h8]); replace h8 := zcl h8
         refine AWp_skip ?_
         refine AWp_condT rfl ?_
         refine AWp_regL ?_
         refine zg1 ?_
         refine zt rfl (zc rfl (findQ_c v bValue _ _ (vcells_eq v) hmz)) ?_
         rw [vcells_eq (jfD v bValue)]
         refine zv6 ?_
         refine zw4 ?_
         refine zrt ?_
         refine RQ_ret (rkvs_cons (rkv_ck rfl rfl rfl) (rkvs_cons (rkv_t rfl) rfl)) hcl (by simp [rks, AV.lt, AV.ltL]) ⟨rfl, _, ⟨opn (jfD v bOp).s, jptN v bPath, [], jfD v bValue⟩, jfB v bValue, rfl, ?_, ?_, ?_⟩
         ·rw [ocells_eq]; exact ⟨AVle.refl _, AVle.refl _, AVle.nils false 1, AVle.refl _, AVle.refl _, AVle.refl _, AVle.refl _, AVle.refl _, AVle.refl _, AVle.refl _, AVle.refl _, trivial⟩
         ·intro h; rw [jop_vl hpb (by rw [hjo]; omega) (by rw [hjo]; omega) (by rw [hjo]; omega), if_pos h, hjo]
         ·intro h; rw [jop_vl hpb (by rw [hjo]; omega) (by rw [hjo]; omega) (by rw [hjo]; omega), if_neg (by rw [h]; decide)]
        ·(try rw [h8]); replace h8 := zcl h8
         refine AWp_regL ?_
         refine zv2 ?_
         refine AWp_cond rfl (fun h9 => ?_) (fun h9 => ?_)
         ·(try rw [h9]); replace h9 := zcl h9
          refine AWp_regL ?_
          refine zg1 ?_
          refine zt rfl (zc rfl (findQ_c v bValue _ _ (vcells_eq v) hmz)) ?_
          rw [vcells_eq (jfD v bValue)]
          refine zv6 ?_
          refine zw4 ?_
          refine zrt ?_
          refine RQ_ret (rkvs_cons (rkv_ck rfl rfl rfl) (rkvs_cons (rkv_t rfl) rfl)) hcl (by simp [rks, AV.lt, AV.ltL]) ⟨rfl, _, ⟨opn (jfD v bOp).s, jptN v bPath, [], jfD v bValue⟩, jfB v bValue, rfl, ?_, ?_, ?_⟩
          ·rw [ocells_eq]; exact ⟨AVle.refl _, AVle.refl _, AVle.nils false 1, AVle.refl _, AVle.refl _, AVle.refl _, AVle.refl _, AVle.refl _, AVle.refl _, AVle.refl _, AVle.refl _, trivial⟩
          ·intro h; rw [jop_vl hpb (by rw [hjo]; omega) (by rw [hjo]; omega) (by rw [hjo]; omega), if_pos h, hjo]
          ·intro h; rw [jop_vl hpb (by rw [hjo]; omega) (by rw [hjo]; omega) (by rw [hjo]; omega), if_neg (by rw [h]; decide)]
         ·(try rw [h9]); replace h9 := zcl h9
          refine AWp_skip ?_
          refine zw4 ?_
          refine zrt ?_
          refine RQ_ret (rkvs_cons (rkv_ck rfl rfl rfl) (rkvs_cons (rkv_t rfl) rfl)) hcl (by simp [rks, AV.lt, AV.ltL]) ⟨rfl, _, ⟨opn (jfD v bOp).s, jptN v bPath, [], vz⟩, jptB v bPath, rfl, ?_, ?_, ?_⟩
          ·rw [ocells_eq]; exact ⟨AVle.refl _, AVle.refl _, AVle.nils false 1, AVle.refl _, AVle.refl _, AVle.refl _, AVle.refl _, AVle.refl _, AVle.refl _, nilL, nilM, trivial⟩
          ·intro _; rw [jop_rm hpb (by rw [hjo]; omega), show opn (jfD v bOp).s = 2 by omega]
          ·intro h; rw [hpb] at h; cases h
end Lg
set_option maxRecDepth 20000
set_option maxHeartbeats 4000000
namespace Lg
open Go Go.Proofs Go.RowKit
variable [GLay] 
theorem spot_0 (σ : List AO) : ACalls Tryd.prog 21 [.nili] σ (Ret (.tup [.int .i64 0, .int .i64 0]) σ) := by
 refine ACalls_body Tryd.func21 rfl Tryd.ntmps21 (res2 Tryd.results21) (Nat.le_of_ble_eq_true rfl) (fun hcl hal => ?_)
 refine zw2 ?_
 refine AWp_seq ?_
 refine zw2 ?_
 refine AWp_cond rfl (fun h1 => ?_) (fun h1 => ?_)
 ·(try rw [h1]); replace h1 := zcl h1
  refine zw2 ?_
  refine zrt ?_
  exact ResQ_20 rfl rfl hcl (by simp [AV.lt, AV.ltL]) (Ret_of rfl)
 ·(try rw [h1]); replace h1 := zcl h1
  cases h1

theorem spot_s (at_ code : Int) (σ : List AO) : ACalls Tryd.prog 21 [.iface 99 (.pp [.int .i64 at_, .int .i64 code])] σ (Ret (.tup [.int .i64 code, .int .i64 at_]) σ) := by
 refine ACalls_body Tryd.func21 rfl Tryd.ntmps21 (res2 Tryd.results21) (Nat.le_of_ble_eq_true rfl) (fun hcl hal => ?_)
 refine zw2 ?_
 refine AWp_seq ?_
 refine zw2 ?_
 refine AWp_cond rfl (fun h1 => ?_) (fun h1 => ?_)
 ·(try rw [h1]); replace h1 := zcl h1
  cases h1
 ·(try rw [h1]); replace h1 := zcl h1
  refine AWp_skip ?_
  refine zu1 ?_
  refine zt rfl (op_assertT rfl Tryd.underlying99 rfl) ?_
  refine zv5 ?_
  refine AWp_seq ?_
  refine zw5 ?_
  refine AWp_condT rfl ?_
  refine AWp_seq ?_
  refine AWp_drawL #[0, 1, 3, 7, 0, 16, 48, 112, 15, 511] Tryd.mixed (by decide +kernel) (by decide +kernel) ?_
  refine zd3 ?_
  refine zp1 ?_
  refine zd3 ?_
  refine zp1 ?_
  refine zd2 ?_
  refine RP.nil rfl ?_
  refine zrt ?_
  exact ResQ_20 rfl rfl hcl (by simp [AV.lt, AV.ltL]) (Ret_of rfl)
end Lg
set_option maxRecDepth 20000
set_option maxHeartbeats 4000000
namespace Lg
open Go Go.Proofs Go.RowKit
variable [GLay] [ML]
theorem read_c (v : JV) (cs : List AV) (σ : List AO) (hc : vcells v = cs) (hjb : jb v) : ACalls Tryd.prog 19 [.agg cs] σ (Ret (.tup [.sl false 11 (orows (jrd v)), errV (jrdE v)]) σ) := by
 obtain ⟨hb1, hb2, hb3, hb4, hb5, hb6⟩ := (jb_eq v).1 hjb
 refine ACalls_body Tryd.func19 rfl Tryd.ntmps19 (res2 Tryd.results19) (Nat.le_of_ble_eq_true rfl) (fun hcl hal => ?_)
 subst hc
 rw [vcells_eq v]
 have hll0 := lcells_length v.l
 refine zw3 ?_
 refine AWp_seq ?_
 refine zw3 ?_
 refine AWp_cond rfl (fun h1 => ?_) (fun h1 => ?_)
 ·(try rw [h1]); replace h1 := zcl h1
  refine zw5 ?_
  refine AWp_slotLe 2 rfl (AVle.nils false 11) ?_ (by decide)
  refine AWp_freezeI (cs := [.int .i64 0, .int .i64 1]) 3 (σ.length + 1) 0 99 rfl (by rw [get_own]; rfl) ?_ (by decide)
  rw [set_own]
  refine zrt ?_
  have hq := jrd_k4 h1
  rw [hq.1, jrdE_s (by rw [hq.2.1]; decide), hq.2.1, hq.2.2]
  exact ResQ_2 rfl rfl hcl (by simp [AV.lt, AV.ltL, AV.ltLL]) (Ret_of rfl)
 ·(try rw [h1]); replace h1 := zcl h1
  refine AWp_skip ?_
  refine AWp_seq ?_
  refine zw4 ?_
  refine AWp_cond rfl (fun h2 => ?_) (fun h2 => ?_)
  ·(try rw [h2]); replace h2 := zcl h2
   refine zw5 ?_
   refine AWp_slotLe 2 rfl (AVle.nils false 11) ?_ (by decide)
   refine AWp_freezeI (cs := [.int .i64 100, .int .i64 5]) 3 (σ.length + 1) 0 99 rfl (by rw [get_own]; rfl) ?_ (by decide)
   rw [set_own]
   refine zrt ?_
   have hq := jrd_many h1 (by omega)
   rw [hq.1, jrdE_s (by rw [hq.2.1]; decide), hq.2.1, hq.2.2]
   exact ResQ_2 rfl rfl hcl (by simp [AV.lt, AV.ltL, AV.ltLL]) (Ret_of rfl)
  ·(try rw [h2]); replace h2 := zcl h2
   refine AWp_skip ?_
   refine zw1 ?_
   refine AWp_seq ?_
   refine AWp_seq ?_
   refine AWp_ghostTO 4 11 1 rfl rfl ?_ (by decide)
   refine AWp_regL ?_
   refine zv4 ?_
   refine AWp_block ?_
   -- loop 0 LIVE 2:assign 3:assign 4:assign 23:load 24:call 25:move
   refine AWp_loop (ι := Nat × List JOp) (fun z => z.1 ≤ v.l.length ∧ jops (v.l.take z.1) = some z.2) (fun z => ⟨[], [(1, .ptr (σ.length + 0) 0), (4, .arr (σ.length + 1) z.1 11 0 z.1), (23, .sl false 8 (lcells v.l)), (24, .int .i64 ((lcells v.l).length : Int)), (25, .int .i64 (z.1 : Int))]⟩) (fun z => σ ++ [.box [.int .i64 v.kind, .bool v.b, .bool v.n.neg, .str v.n.digits, .int .i64 v.n.exp, .str v.s, .sl false 8 (lcells v.l), .sl false 9 (mcells v.m)], .arr 11 z.1 (orows z.2).flatten]) (fun z => v.l.length - z.1) ((0, [])) (⟨Nat.zero_le _, rfl⟩) ?_ rfl (fun z hz => ?_)
   ·repeat' first | rfl | trivial | constructor
   obtain ⟨i, os⟩ := z
   obtain ⟨hi1, hos⟩ := hz
   simp only at hi1 hos ⊢
   have hol : os.length = i := by have := jops_len hos; rw [List.length_take] at this; omega
   have hll := lcells_length v.l
   refine zw1 ?_
   refine AWp_seq ?_
   refine AWp_cond rfl (fun h3 => ?_) (fun h3 => ?_)
   ·(try rw [h3]); replace h3 := zcl h3
    obtain ⟨x, hx⟩ : ∃ x, v.l[i]? = some x := ⟨_, List.getElem?_eq_getElem (show i < v.l.length by omega)⟩
    refine AWp_skip ?_
    refine AWp_seq ?_
    refine AWp_block ?_
    refine zu2 ?_
    rw [vcells_eq x]
    refine zv4 ?_
    refine zu1 ?_
    refine ztR rfl (zcR rfl (vcells_eq x ▸ OpR.strong (one_c x _ _ rfl (lb_get hb5 hx)))) (fun v9_1 s9_1 hr => ?_) (fun v9_1 s9_1 hr => ?_)
    rotate_left
    ·obtain ⟨_, _, _, hv, _⟩ := hr; cases hv
    obtain ⟨hh, xo, ob, hv, ht, hf⟩ := hr
    cases hv
    subst hh
    rw [ocells_eq xo]
    refine zv6 ?_
    refine AWp_seq ?_
    refine zw2 ?_
    refine AWp_cond rfl (fun h4 => ?_) (fun h4 => ?_)
    ·(try rw [h4]); replace h4 := zcl h4
     have hxn := hf (by simpa using h4)
     refine zw6 ?_
     refine AWp_slotLe 2 rfl (AVle.nils false 11) ?_ (by decide)
     refine AWp_freezeI (cs := [.int .i64 (i : Int), .int .i64 1]) 3 (σ.length + 4) 0 99 rfl (by rw [get_own]; rfl) ?_ (by decide)
     rw [set_own]
     refine zrt ?_
     have hq := jrd_bad h1 (by omega) hos hx hxn
     rw [hq.1, jrdE_s (by rw [hq.2.1]; decide), hq.2.1, hq.2.2]
     exact ResQ_2 rfl rfl hcl (by simp [AV.lt, AV.ltL, AV.ltLL]) (Ret_of rfl)
    ·(try rw [h4]); replace h4 := zcl h4
     have hob : ob = true := by simpa using h4
     subst hob
     refine AWp_skip ?_
     refine AWp_regL ?_
     refine zg2 ?_
     refine zt rfl (op_buildSlice [[_, _, _, _, _, _, _, _, _, _, _]] rfl Tryd.underlying55 Tryd.sizeOf92 Tryd.zeroValue92 rfl (by decide) (by decide) rfl rfl rfl rfl rfl) ?_
     refine zt rfl (op_appendArrT rfl 1 (sz := 11) (m := 1) (len := i) (cs := _) rfl (.inr ⟨_, rfl⟩) Tryd.underlying55 Tryd.underlying55 Tryd.type92 rfl rfl rfl (by decide) rfl rfl (by rw [oflat_len, hol]) rfl rfl rfl (by show (i + 1) * 168 ≤ _; omega) (by omega) rfl) ?_
     refine zv1 ?_
     refine AWp_regL ?_
     refine zv2 ?_
     have hos2 : jops (v.l.take (i + 1)) = some (os ++ [xo]) := by rw [ltake_succ hx, jops_snoc hos, ht rfl]; rfl
     refine ⟨(i + 1, os ++ [xo]), σ.length + 2, ⟨by simp only; omega, hos2⟩, by simp only; omega, by simp, ⟨rfl, rfl, rfl, rfl, rfl, rfl, trivial⟩, closed_own 2 hcl ?_, ?_, ?_⟩
     ·simp [ownLt, AO.cells, AV.ltL, AV.lt, ltL_append]
     ·simp [ltE, AV.lt, AV.ltL]
     ·refine (take_own 2).trans ?_
      rw [orows_snoc, ocells_eq xo]; rfl
   ·(try rw [h3]); replace h3 := zcl h3
    refine AWp_exit ?_
    refine AWp_seq ?_
    have hie : i = v.l.length := by omega
    subst hie
    rw [List.take_length] at hos
    refine AWp_freezeAO 4 1 v.l.length 11 v.l.length (orows os) rfl rfl (orows_el _) (by rw [orows_len]; exact hol) (by decide) ?_ (by decide)
    refine AWp_regL ?_
    refine zv3 ?_
    refine zrt ?_
    have hq := jrd_ok h1 (by omega) hos
    rw [hq.1, jrdE_n hq.2.1]
    exact ResQ_2 rfl rfl hcl (by simp [AV.lt, AV.ltL]) (Ret_of rfl)
end Lg
set_option maxRecDepth 20000
set_option maxHeartbeats 4000000
namespace Lg
open Go Go.Proofs Go.RowKit
variable [GLay] [ML]
theorem rread_c (v : JV) (cs : List AV) (σ : List AO) (hc : vcells v = cs) (hjb : jb v) : ACalls Tryd.prog 20 [.agg cs] σ (Ret (.tup [.sl false 11 (orows (jrd v)), .int .i64 (jrdC v), .int .i64 (jrdA v)]) σ) := by
 obtain ⟨hb1, hb2, hb3, hb4, hb5, hb6⟩ := (jb_eq v).1 hjb
 refine ACalls_body Tryd.func20 rfl Tryd.ntmps20 (res3 Tryd.results20) (Nat.le_of_ble_eq_true rfl) (fun hcl hal => ?_)
 subst hc
 rw [vcells_eq v]
 have hll0 := lcells_length v.l
 refine zw4 ?_
 refine AWp_seq ?_
 refine zw3 ?_
 refine AWp_cond rfl (fun h1 => ?_) (fun h1 => ?_)
 ·(try rw [h1]); replace h1 := zcl h1
  refine zw3 ?_
  refine AWp_slotLe 2 rfl (AVle.nils false 11) ?_ (by decide)
  refine zrt ?_
  have hq := jrd_k4 h1
  rw [hq.1, hq.2.1, hq.2.2]
  exact ResQ_3 rfl rfl rfl hcl (by simp [AV.lt, AV.ltL, AV.ltLL]) (Ret_of rfl)
 ·(try rw [h1]); replace h1 := zcl h1
  refine AWp_skip ?_
  refine AWp_seq ?_
  refine zw4 ?_
  refine AWp_cond rfl (fun h2 => ?_) (fun h2 => ?_)
  ·(try rw [h2]); replace h2 := zcl h2
   refine zw3 ?_
   refine AWp_slotLe 2 rfl (AVle.nils false 11) ?_ (by decide)
   refine zrt ?_
   have hq := jrd_many h1 (by omega)
   rw [hq.1, hq.2.1, hq.2.2]
   exact ResQ_3 rfl rfl rfl hcl (by simp [AV.lt, AV.ltL, AV.ltLL]) (Ret_of rfl)
  ·(try rw [h2]); replace h2 := zcl h2
   refine AWp_skip ?_
   refine zw1 ?_
   refine AWp_seq ?_
   refine AWp_seq ?_
   refine AWp_ghostTO 5 11 1 rfl rfl ?_ (by decide)
   refine AWp_regL ?_
   refine zv1 ?_
   refine AWp_block ?_
   -- loop 0 LIVE 1:box 2:assign 3:assign 4:assign 5:assign 6:assign
   refine AWp_loop (ι := Nat × List JOp) (fun z => z.1 ≤ v.l.length ∧ jops (v.l.take z.1) = some z.2) (fun z => ⟨[], [(1, .ptr (σ.length + 0) 0), (5, .arr (σ.length + 1) z.1 11 0 z.1), (6, .int .i64 (z.1 : Int))]⟩) (fun z => σ ++ [.box [.int .i64 v.kind, .bool v.b, .bool v.n.neg, .str v.n.digits, .int .i64 v.n.exp, .str v.s, .sl false 8 (lcells v.l), .sl false 9 (mcells v.m)], .arr 11 z.1 (orows z.2).flatten]) (fun z => v.l.length - z.1) ((0, [])) (⟨Nat.zero_le _, rfl⟩) ?_ rfl (fun z hz => ?_)
   ·repeat' first | rfl | trivial | constructor
   obtain ⟨i, os⟩ := z
   obtain ⟨hi1, hos⟩ := hz
   simp only at hi1 hos ⊢
   have hol : os.length = i := by have := jops_len hos; rw [List.length_take] at this; omega
   have hll := lcells_length v.l
   refine AWp_seq ?_
   refine zw5 ?_
   refine AWp_cond rfl (fun h3 => ?_) (fun h3 => ?_)
   ·(try rw [h3]); replace h3 := zcl h3
    obtain ⟨x, hx⟩ : ∃ x, v.l[i]? = some x := ⟨_, List.getElem?_eq_getElem (show i < v.l.length by omega)⟩
    refine AWp_skip ?_
    refine AWp_seq ?_
    refine AWp_block ?_
    refine zu4 ?_
    rw [vcells_eq x]
    refine zg1 ?_
    refine ztR rfl (zcR rfl (vcells_eq x ▸ OpR.strong (rop_c x _ _ rfl (lb_get hb5 hx)))) (fun v9_5 s9_5 hr => ?_) (fun v9_5 s9_5 hr => ?_)
    rotate_left
    ·obtain ⟨_, _, _, hv, _⟩ := hr; cases hv
    obtain ⟨hh, xo, ob, hv, ht, hf⟩ := hr
    cases hv
    subst hh
    rw [ocells_eq xo]
    refine zv6 ?_
    refine AWp_seq ?_
    refine zw2 ?_
    refine AWp_cond rfl (fun h4 => ?_) (fun h4 => ?_)
    ·(try rw [h4]); replace h4 := zcl h4
     have hxn := hf (by simpa using h4)
     refine zw4 ?_
     refine AWp_slotLe 2 rfl (AVle.nils false 11) ?_ (by decide)
     refine zrt ?_
     have hq := jrd_bad h1 (by omega) hos hx hxn
     rw [hq.1, hq.2.1, hq.2.2]
     exact ResQ_3 rfl rfl rfl hcl (by simp [AV.lt, AV.ltL, AV.ltLL]) (Ret_of rfl)
    ·(try rw [h4]); replace h4 := zcl h4
     have hob : ob = true := by simpa using h4
     subst hob
     refine AWp_skip ?_
     refine AWp_regL ?_
     refine zg2 ?_
     refine zt rfl (op_buildSlice [[_, _, _, _, _, _, _, _, _, _, _]] rfl Tryd.underlying55 Tryd.sizeOf92 Tryd.zeroValue92 rfl (by decide) (by decide) rfl rfl rfl rfl rfl) ?_
     refine zt rfl (op_appendArrT rfl 1 (sz := 11) (m := 1) (len := i) (cs := _) rfl (.inr ⟨_, rfl⟩) Tryd.underlying55 Tryd.underlying55 Tryd.type92 rfl rfl rfl (by decide) rfl rfl (by rw [oflat_len, hol]) rfl rfl rfl (by show (i + 1) * 168 ≤ _; omega) (by omega) rfl) ?_
     refine zv1 ?_
     refine AWp_regL ?_
     refine zv3 ?_
     have hos2 : jops (v.l.take (i + 1)) = some (os ++ [xo]) := by rw [ltake_succ hx, jops_snoc hos, ht rfl]; rfl
     refine ⟨(i + 1, os ++ [xo]), σ.length + 2, ⟨by simp only; omega, hos2⟩, by simp only; omega, by simp, ⟨rfl, rfl, rfl, rfl, trivial⟩, closed_own 2 hcl ?_, ?_, ?_⟩
     ·simp [ownLt, AO.cells, AV.ltL, AV.lt, ltL_append]
     ·simp [ltE, AV.lt, AV.ltL]
     ·refine (take_own 2).trans ?_
      rw [orows_snoc, ocells_eq xo]; rfl
   ·(try rw [h3]); replace h3 := zcl h3
    refine AWp_exit ?_
    refine AWp_seq ?_
    have hie : i = v.l.length := by omega
    subst hie
    rw [List.take_length] at hos
    refine AWp_freezeAO 5 1 v.l.length 11 v.l.length (orows os) rfl rfl (orows_el _) (by rw [orows_len]; exact hol) (by decide) ?_ (by decide)
    refine AWp_regL ?_
    refine zv4 ?_
    refine zrt ?_
    have hq := jrd_ok h1 (by omega) hos
    rw [hq.1, hq.2.1, hq.2.2]
    exact ResQ_3 rfl rfl rfl hcl (by simp [AV.lt, AV.ltL]) (Ret_of rfl)
end Lg
set_option maxRecDepth 20000
set_option maxHeartbeats 4000000
namespace Lg
open Go Go.Proofs Go.RowKit
variable [GLay] 
theorem peek_c (s : ByteArray) (at0 deep bad spot : Int) (p : Nat) (σ : List AO) (hσ : σ[p]? = some (.box [.str s, .int .i64 at0, .int .i64 deep, .int .i64 bad, .int .i64 spot])) (h0 : 0 ≤ at0) : ACalls Tryd.prog 65 [.ptr p 0] σ (Ret (.int .i64 (pkv s at0 bad)) σ) := by
 refine ACalls_body Tryd.func65 rfl Tryd.ntmps65 (res1 Tryd.results65) (Nat.le_of_ble_eq_true rfl) (fun hcl hal => ?_)
 have hbl := bat_lt s at0.toNat
 refine zw1 ?_
 refine AWp_seq ?_
 refine AWp_seq ?_
 refine AWp_drawL #[0, 1, 3, 7, 15, 31, 63, 127, 255, 511, 63, 1087, 3135, 7231, 15423, 32767, 65535] Tryd.mixed (by decide +kernel) (by decide +kernel) ?_
 refine zd3 ?_
 refine zp1 ?_
 refine zd2 ?_
 refine zspr 8 rfl (fun h1 => ?_) fun h1 => ?_
 ·rw [h1]; replace h1 := zcl h1
  refine zd10 ?_
  refine zd1 ?_
  refine RP.nil rfl ?_
  refine AWp_condT rfl ?_
  refine zw1 ?_
  refine zrt ?_
  refine ResQ_10 rfl hcl trivial (Ret_of ?_)
  congr 1; unfold pkv; first | (rw [if_pos (by omega)]; done) | (rw [if_neg (by omega)]; done)
 ·rw [h1]; replace h1 := zcl h1
  refine zd3 ?_
  refine zp1 ?_
  refine zd3 ?_
  refine zp1 ?_
  refine zd3 ?_
  refine RP.nil rfl ?_
  refine AWp_cond rfl (fun h2 => ?_) (fun h2 => ?_)
  ·(try rw [h2]); replace h2 := zcl h2
   refine zw1 ?_
   refine zrt ?_
   refine ResQ_10 rfl hcl trivial (Ret_of ?_)
   congr 1; unfold pkv; first | (rw [if_pos (by omega)]; done) | (rw [if_neg (by omega)]; done)
  ·(try rw [h2]); replace h2 := zcl h2
   refine AWp_skip ?_
   refine AWp_seq ?_
   refine AWp_drawL #[0, 1, 3, 7, 0, 16, 48, 112, 255, 511, 1023] Tryd.mixed (by decide +kernel) (by decide +kernel) ?_
   refine zd3 ?_
   refine zp1 ?_
   refine zd3 ?_
   refine zp1 ?_
   refine zd3 ?_
   refine RP.nil rfl ?_
   refine zrt ?_
   refine ResQ_10 rfl hcl trivial (Ret_of ?_)
   congr 1; unfold pkv; first | (rw [if_pos (by omega)]; done) | (rw [if_neg (by omega)]; done)
end Lg
set_option maxRecDepth 20000
set_option maxHeartbeats 4000000
namespace Lg
open Go Go.Proofs Go.RowKit
variable [GLay] 
theorem fail_c (s : ByteArray) (at0 deep bad spot : Int) (p : Nat) (σ : List AO) (hσ : σ[p]? = some (.box [.str s, .int .i64 at0, .int .i64 deep, .int .i64 bad, .int .i64 spot])) (a b : Int) : ACalls Tryd.prog 43 [.ptr p 0, .int .i64 a, .int .i64 b] σ (Ret (.tup []) (σ.set p (.box [.str s, .int .i64 at0, .int .i64 deep, .int .i64 (if bad = 0 then b else bad), .int .i64 (if bad = 0 then a else spot)]))) := by
 have hp : p < σ.length := (List.getElem?_eq_some_iff.1 hσ).1
 refine ACalls_body Tryd.func43 rfl Tryd.ntmps43 (res0 Tryd.results43) (Nat.le_of_ble_eq_true rfl) (fun hcl hal => ?_)
 refine AWp_heap (set_same hσ) ?_
 refine zw5 ?_
 refine AWp_cond rfl (fun h1 => ?_) (fun h1 => ?_)
 ·(try rw [h1]); replace h1 := zcl h1
  refine zw5 ?_
  refine AWp_regL ?_
  refine zv5 ?_
  (try simp only [blockQ, thenQ])
  rw [if_pos h1, if_pos h1]
  exact ResQ_N0 (x := .box [.str s, .int .i64 at0, .int .i64 deep, .int .i64 b, .int .i64 a]) hcl (by simp [AO.cells, AV.ltL, AV.lt]) ⟨rfl, rfl⟩
 ·(try rw [h1]); replace h1 := zcl h1
  refine AWp_skip ?_
  (try simp only [blockQ, thenQ])
  rw [if_neg h1, if_neg h1]
  exact ResQ_N0 hcl (by simp [AO.cells, AV.ltL, AV.lt]) ⟨rfl, rfl⟩
end Lg
set_option maxRecDepth 20000
set_option maxHeartbeats 4000000
namespace Lg
open Go Go.Proofs Go.RowKit
variable [GLay] 
theorem blank_c (s : ByteArray) (a : Nat) (deep bad spot : Int) (p : Nat) (σ : List AO) (hσ : σ[p]? = some (.box [.str s, .int .i64 (a : Int), .int .i64 deep, .int .i64 bad, .int .i64 spot])) (hs : s.size ≤ 1000000) (ha : a ≤ 1000000) : ACalls Tryd.prog 64 [.ptr p 0] σ (Ret (.tup []) (σ.set p (.box [.str s, .int .i64 ((if bad = 0 then blk s a else a : Nat) : Int), .int .i64 deep, .int .i64 bad, .int .i64 spot]))) := by
 have hp : p < σ.length := (List.getElem?_eq_some_iff.1 hσ).1
 refine ACalls_body Tryd.func64 rfl Tryd.ntmps64 (res0 Tryd.results64) (Nat.le_of_ble_eq_true rfl) (fun hcl hal => ?_)
 refine AWp_heap (set_same hσ) ?_
 refine AWp_block ?_
 -- loop 0 LIVE 0:param
 refine AWp_loop (ι := Nat) (fun i => (bad = 0 → blk s i = blk s a) ∧ (bad ≠ 0 → i = a) ∧ i ≤ 1000000) (fun i => ⟨[], [(0, .ptr p 0)]⟩) (fun i => σ.set p (.box [.str s, .int .i64 (i : Int), .int .i64 deep, .int .i64 bad, .int .i64 spot])) (fun i => s.size - i) (a) (⟨fun _ => rfl, fun _ => rfl, ha⟩) ?_ rfl (fun i hi => ?_)
 ·exact ⟨rfl, rfl, trivial⟩
 obtain ⟨hi1, hi2, hi3⟩ := hi
 refine AWp_seq ?_
 refine zu1 ?_
 refine zt rfl (zc rfl (peek_c s (i : Int) deep bad spot p _ (get_set hp) (by omega))) ?_
 refine zg2 ?_
 refine zsp 5 rfl (fun h1 => ?_) fun h1 => ?_
 ·rw [h1]; replace h1 := zcl h1
  refine zg10 ?_
  refine zg4 ?_
  refine zon ?_
  refine AWp_condT rfl ?_
  refine AWp_skip ?_
  refine AWp_block ?_
  refine AWp_regL ?_
  refine zv8 ?_
  have hk := pk_yes (s := s) (a := i) (bad := bad) (by omega)
  have hbl : isbl (bat s i) := by simp only [isbl]; omega
  refine ⟨i + 1, σ.length, ⟨fun h => by rw [← blk_yes hk.2.1 hbl]; exact hi1 h, fun h => absurd hk.1 h, by omega⟩, by omega, by simp, ⟨rfl, rfl, trivial⟩, closed_set (x := .box [.str s, .int .i64 ((i : Int) + 1), .int .i64 deep, .int .i64 bad, .int .i64 spot]) hcl (by simp [AO.cells, AV.ltL, AV.lt]), ?_, take_set ?_⟩
  ·simp [ltE, AV.lt]; omega
  ·rw [Int.natCast_add]; rfl
 ·rw [h1]; replace h1 := zcl h1
  refine zg1 ?_
  refine ztG rfl rfl (zc rfl (peek_c s (i : Int) deep bad spot p _ (get_set hp) (by omega))) ?_
  refine zg3 ?_
  refine zsp 10 rfl (fun h2 => ?_) fun h2 => ?_
  ·rw [h2]; replace h2 := zcl h2
   refine zv9 ?_
   refine AWp_condT rfl ?_
   refine AWp_skip ?_
   refine AWp_block ?_
   refine AWp_regL ?_
   refine zv8 ?_
   have hk := pk_yes (s := s) (a := i) (bad := bad) (by omega)
   have hbl : isbl (bat s i) := by simp only [isbl]; omega
   refine ⟨i + 1, σ.length, ⟨fun h => by rw [← blk_yes hk.2.1 hbl]; exact hi1 h, fun h => absurd hk.1 h, by omega⟩, by omega, by simp, ⟨rfl, rfl, trivial⟩, closed_set (x := .box [.str s, .int .i64 ((i : Int) + 1), .int .i64 deep, .int .i64 bad, .int .i64 spot]) hcl (by simp [AO.cells, AV.ltL, AV.lt]), ?_, take_set ?_⟩
   ·simp [ltE, AV.lt]; omega
   ·rw [Int.natCast_add]; rfl
  ·rw [h2]; replace h2 := zcl h2
   refine zg1 ?_
   refine ztG rfl rfl (zc rfl (peek_c s (i : Int) deep bad spot p _ (get_set hp) (by omega))) ?_
   refine zg3 ?_
   refine zsp 15 rfl (fun h3 => ?_) fun h3 => ?_
   ·rw [h3]; replace h3 := zcl h3
    refine zv4 ?_
    refine AWp_condT rfl ?_
    refine AWp_skip ?_
    refine AWp_block ?_
    refine AWp_regL ?_
    refine zv8 ?_
    have hk := pk_yes (s := s) (a := i) (bad := bad) (by omega)
    have hbl : isbl (bat s i) := by simp only [isbl]; omega
    refine ⟨i + 1, σ.length, ⟨fun h => by rw [← blk_yes hk.2.1 hbl]; exact hi1 h, fun h => absurd hk.1 h, by omega⟩, by omega, by simp, ⟨rfl, rfl, trivial⟩, closed_set (x := .box [.str s, .int .i64 ((i : Int) + 1), .int .i64 deep, .int .i64 bad, .int .i64 spot]) hcl (by simp [AO.cells, AV.ltL, AV.lt]), ?_, take_set ?_⟩
    ·simp [ltE, AV.lt]; omega
    ·rw [Int.natCast_add]; rfl
   ·rw [h3]; replace h3 := zcl h3
    refine zg1 ?_
    refine ztG rfl rfl (zc rfl (peek_c s (i : Int) deep bad spot p _ (get_set hp) (by omega))) ?_
    refine zv2 ?_
    refine AWp_cond rfl (fun h4 => ?_) (fun h4 => ?_)
    ·(try rw [h4]); replace h4 := zcl h4
     refine AWp_skip ?_
     refine AWp_block ?_
     refine AWp_regL ?_
     refine zv8 ?_
     have hk := pk_yes (s := s) (a := i) (bad := bad) (by omega)
     have hbl : isbl (bat s i) := by simp only [isbl]; omega
     refine ⟨i + 1, σ.length, ⟨fun h => by rw [← blk_yes hk.2.1 hbl]; exact hi1 h, fun h => absurd hk.1 h, by omega⟩, by omega, by simp, ⟨rfl, rfl, trivial⟩, closed_set (x := .box [.str s, .int .i64 ((i : Int) + 1), .int .i64 deep, .int .i64 bad, .int .i64 spot]) hcl (by simp [AO.cells, AV.ltL, AV.lt]), ?_, take_set ?_⟩
     ·simp [ltE, AV.lt]; omega
     ·rw [Int.natCast_add]; rfl
    ·(try rw [h4]); replace h4 := zcl h4
     refine AWp_exit ?_
     (try simp only [blockQ, thenQ])
     have hfin : i = (if bad = 0 then blk s a else a) := by
      by_cases hb : bad = 0
      ·rw [if_pos hb, ← hi1 hb, blk_no]; intro hx; have := pk_in (s := s) hb hx.1; have := hx.2; simp only [isbl] at this; omega
      ·rw [if_neg hb]; exact hi2 hb
     rw [← hfin]
     exact ResQ_N0 (x := .box [.str s, .int .i64 (i : Int), .int .i64 deep, .int .i64 bad, .int .i64 spot]) hcl (by simp [AO.cells, AV.ltL, AV.lt]) ⟨rfl, rfl⟩
end Lg
set_option maxRecDepth 20000
set_option maxHeartbeats 4000000
namespace Lg
open Go Go.Proofs Go.RowKit
variable [GLay] 
theorem open_c (s : ByteArray) (a : Nat) (deep bad spot : Int) (p : Nat) (σ : List AO) (hσ : σ[p]? = some (.box [.str s, .int .i64 (a : Int), .int .i64 deep, .int .i64 bad, .int .i64 spot])) (hs : s.size ≤ 1000000) (ha : a < 1000000) (hd : 0 ≤ deep) (hd2 : deep ≤ 1000000) : ACalls Tryd.prog 89 [.ptr p 0] σ (Ret (.tup []) (σ.set p (.box [.str s, .int .i64 ((if (if deep = 32 then (if bad = 0 then 3 else bad) else bad) = 0 then blk s (a + 1) else a + 1 : Nat) : Int), .int .i64 (deep + 1), .int .i64 (if deep = 32 then (if bad = 0 then 3 else bad) else bad), .int .i64 (if deep = 32 then (if bad = 0 then (a : Int) else spot) else spot)]))) := by
 have hp : p < σ.length := (List.getElem?_eq_some_iff.1 hσ).1
 refine ACalls_body Tryd.func89 rfl Tryd.ntmps89 (res0 Tryd.results89) (Nat.le_of_ble_eq_true rfl) (fun hcl hal => ?_)
 refine AWp_heap (set_same hσ) ?_
 refine AWp_seq ?_
 refine zw5 ?_
 refine AWp_cond rfl (fun h1 => ?_) (fun h1 => ?_)
 ·(try rw [h1]); replace h1 := zcl h1
  refine AWp_regL ?_
  refine zg5 ?_
  refine zt rfl (zc rfl (callS (fail_c s (a : Int) deep bad spot p _ (get_set hp) (a : Int) 3))) ?_
  refine zon ?_
  refine zw8 ?_
  refine zw8 ?_
  refine AWp_regL ?_
  refine zg1 ?_
  refine zt rfl (zc rfl (callS (blank_c s (a + 1) (deep + 1) _ _ p _ (get_set hp) hs (by omega)))) ?_
  refine zon ?_
  (try simp only [blockQ, thenQ])
  simp only [if_pos h1]
  exact ResQ_N0 hcl (by simp [AO.cells, AV.ltL, AV.lt]) ⟨rfl, rfl⟩
 ·(try rw [h1]); replace h1 := zcl h1
  refine AWp_skip ?_
  refine zw8 ?_
  refine zw8 ?_
  refine AWp_regL ?_
  refine zg1 ?_
  refine zt rfl (zc rfl (callS (blank_c s (a + 1) (deep + 1) _ _ p _ (get_set hp) hs (by omega)))) ?_
  refine zon ?_
  (try simp only [blockQ, thenQ])
  simp only [if_neg h1]
  exact ResQ_N0 hcl (by simp [AO.cells, AV.ltL, AV.lt]) ⟨rfl, rfl⟩
end Lg
set_option maxRecDepth 20000
set_option maxHeartbeats 4000000
namespace Lg
open Go Go.Proofs Go.RowKit
variable [GLay] 
theorem run_n (s : ByteArray) (a : Nat) (σ : List AO) (hs : s.size ≤ 1000000) (ha : a ≤ 1000000) : ACalls Tryd.prog 76 [.str s, .int .i64 (a : Int)] σ (Ret (.int .i64 (runl s a : Int)) σ) := by
  have := run_c s (a : Int) σ (by omega) (by omega) (by omega)
  simpa using this
theorem end_c (s : ByteArray) (a : Nat) (σ : List AO) (hs : s.size ≤ 1000000) (ha : a ≤ s.size) : ACalls Tryd.prog 70 [.str s, .int .i64 (a : Int)] σ (Ret (.tup [.int .i64 ((rEnd s a).1 : Int), .bool (rEnd s a).2]) σ) := by
 refine ACalls_body Tryd.func70 rfl Tryd.ntmps70 (res2 Tryd.results70) (Nat.le_of_ble_eq_true rfl) (fun hcl hal => ?_)
 have hi1 := eSign_le ha
 have hr1 := runl_le s (eSign s a)
 refine zw2 ?_
 refine zw2 ?_
 refine AWp_join (ι := Unit) (fun b => True) (fun b => ⟨[], [(0, .str s), (6, .int .i64 (eSign s a : Int))]⟩) (fun b => σ) ?_ (fun b hj => ?_)
 ·skip
  refine zu5 ?_
  refine zsp 13 rfl (fun h1 => ?_) fun h1 => ?_
  ·rw [h1]; (try simp only [decide_eq_true_eq, decide_eq_false_iff_not, Bool.not_eq_true', Bool.not_eq_false', Int.not_lt, Int.not_le, Bool.not_true, Bool.not_false, Int.toNat_natCast, tn1, tn2, tnn, bne_iff_ne, beq_iff_eq, beq_eq_false_iff_ne, ne_eq, Decidable.not_not] at h1)
   refine zv5 ?_
   refine AWp_cond rfl (fun h2 => ?_) (fun h2 => ?_)
   ·(try rw [h2]); (try simp only [decide_eq_true_eq, decide_eq_false_iff_not, Bool.not_eq_true', Bool.not_eq_false', Int.not_lt, Int.not_le, Bool.not_true, Bool.not_false, Int.toNat_natCast, tn1, tn2, tnn, bne_iff_ne, beq_iff_eq, beq_eq_false_iff_ne, ne_eq, Decidable.not_not] at h2)
    refine AWp_regL ?_
    refine zv3 ?_
    refine ⟨(), trivial, ⟨rfl, rfl, ?_, trivial⟩, rfl⟩
    unfold eSign; first | (rw [if_pos (by omega)]; rfl) | (rw [if_neg (by omega)]; rfl)
   ·(try rw [h2]); (try simp only [decide_eq_true_eq, decide_eq_false_iff_not, Bool.not_eq_true', Bool.not_eq_false', Int.not_lt, Int.not_le, Bool.not_true, Bool.not_false, Int.toNat_natCast, tn1, tn2, tnn, bne_iff_ne, beq_iff_eq, beq_eq_false_iff_ne, ne_eq, Decidable.not_not] at h2)
    refine AWp_skip ?_
    refine ⟨(), trivial, ⟨rfl, rfl, ?_, trivial⟩, rfl⟩
    unfold eSign; first | (rw [if_pos (by omega)]; rfl) | (rw [if_neg (by omega)]; rfl)
  ·rw [h1]; (try simp only [decide_eq_true_eq, decide_eq_false_iff_not, Bool.not_eq_true', Bool.not_eq_false', Int.not_lt, Int.not_le, Bool.not_true, Bool.not_false, Int.toNat_natCast, tn1, tn2, tnn, bne_iff_ne, beq_iff_eq, beq_eq_false_iff_ne, ne_eq, Decidable.not_not] at h1)
   refine zv5 ?_
   refine AWp_condF rfl ?_
   refine AWp_skip ?_
   refine ⟨(), trivial, ⟨rfl, rfl, ?_, trivial⟩, rfl⟩
   unfold eSign; first | (rw [if_pos (by omega)]; rfl) | (rw [if_neg (by omega)]; rfl)
 ·skip
  refine zu2 ?_
  refine zt rfl (zc rfl (run_n s (eSign s a) _ hs (by omega))) ?_
  refine zv1 ?_
  refine AWp_seq ?_
  refine zw2 ?_
  refine AWp_cond rfl (fun h3 => ?_) (fun h3 => ?_)
  ·(try rw [h3]); (try simp only [decide_eq_true_eq, decide_eq_false_iff_not, Bool.not_eq_true', Bool.not_eq_false', Int.not_lt, Int.not_le, Bool.not_true, Bool.not_false, Int.toNat_natCast, tn1, tn2, tnn, bne_iff_ne, beq_iff_eq, beq_eq_false_iff_ne, ne_eq, Decidable.not_not] at h3)
   refine zw3 ?_
   refine zrt ?_
   have hE : rEnd s a = (eSign s a, false) := by unfold rEnd; rw [if_pos (by omega)]
   rw [hE]; exact ResQ_20 rfl rfl hcl (by simp [AV.lt, AV.ltL]) (Ret_of rfl)
  ·(try rw [h3]); (try simp only [decide_eq_true_eq, decide_eq_false_iff_not, Bool.not_eq_true', Bool.not_eq_false', Int.not_lt, Int.not_le, Bool.not_true, Bool.not_false, Int.toNat_natCast, tn1, tn2, tnn, bne_iff_ne, beq_iff_eq, beq_eq_false_iff_ne, ne_eq, Decidable.not_not] at h3)
   refine AWp_skip ?_
   refine AWp_join (ι := Unit) (fun b => True) (fun b => ⟨[], [(0, .str s), (6, .int .i64 (eSign s a : Int)), (7, .int .i64 (eInt s (eSign s a) : Int))]⟩) (fun b => σ) ?_ (fun b hj => ?_)
   ·skip
    refine zw4 ?_
    refine AWp_cond rfl (fun h4 => ?_) (fun h4 => ?_)
    ·(try rw [h4]); (try simp only [decide_eq_true_eq, decide_eq_false_iff_not, Bool.not_eq_true', Bool.not_eq_false', Int.not_lt, Int.not_le, Bool.not_true, Bool.not_false, Int.toNat_natCast, tn1, tn2, tnn, bne_iff_ne, beq_iff_eq, beq_eq_false_iff_ne, ne_eq, Decidable.not_not] at h4)
     refine AWp_regL ?_
     refine zv1 ?_
     refine ⟨(), trivial, ⟨rfl, rfl, rfl, ?_, trivial⟩, rfl⟩
     unfold eInt; first | (rw [if_pos (by omega)]; rfl) | (rw [if_neg (by omega)]; rfl)
    ·(try rw [h4]); (try simp only [decide_eq_true_eq, decide_eq_false_iff_not, Bool.not_eq_true', Bool.not_eq_false', Int.not_lt, Int.not_le, Bool.not_true, Bool.not_false, Int.toNat_natCast, tn1, tn2, tnn, bne_iff_ne, beq_iff_eq, beq_eq_false_iff_ne, ne_eq, Decidable.not_not] at h4)
     refine AWp_skip ?_
     refine ⟨(), trivial, ⟨rfl, rfl, rfl, ?_, trivial⟩, rfl⟩
     unfold eInt; first | (rw [if_pos (by omega)]; rfl) | (rw [if_neg (by omega)]; rfl)
   ·skip
    have hi2 := eInt_le hi1.2 (by omega)
    have hE : rEnd s a = eFrac s (eSign s a + eInt s (eSign s a)) := by unfold rEnd; rw [if_neg (by omega)]
    generalize hk : (eSign s a + eInt s (eSign s a)) = k at hE
    have hr2 := runl_le s (k + 1)
    refine zu3 ?_
    rw [← Int.natCast_add, hk]
    refine zv1 ?_
    refine AWp_join (ι := Nat) (fun j => rEnd s a = ePow s j ∧ j ≤ s.size) (fun j => ⟨[], [(0, .str s), (6, .int .i64 (j : Int))]⟩) (fun j => σ) ?_ (fun j hj => ?_)
    ·skip
     refine zu5 ?_
     refine zsp 38 rfl (fun h5 => ?_) fun h5 => ?_
     ·rw [h5]; (try simp only [decide_eq_true_eq, decide_eq_false_iff_not, Bool.not_eq_true', Bool.not_eq_false', Int.not_lt, Int.not_le, Bool.not_true, Bool.not_false, Int.toNat_natCast, tn1, tn2, tnn, bne_iff_ne, beq_iff_eq, beq_eq_false_iff_ne, ne_eq, Decidable.not_not] at h5)
      refine zv5 ?_
      refine AWp_cond rfl (fun h6 => ?_) (fun h6 => ?_)
      ·(try rw [h6]); (try simp only [decide_eq_true_eq, decide_eq_false_iff_not, Bool.not_eq_true', Bool.not_eq_false', Int.not_lt, Int.not_le, Bool.not_true, Bool.not_false, Int.toNat_natCast, tn1, tn2, tnn, bne_iff_ne, beq_iff_eq, beq_eq_false_iff_ne, ne_eq, Decidable.not_not] at h6)
       refine zu3 ?_
       refine zt rfl (zc rfl (run_n s (k + 1) _ hs (by omega))) ?_
       refine zv1 ?_
       refine zw5 ?_
       refine zw2 ?_
       refine AWp_cond rfl (fun h7 => ?_) (fun h7 => ?_)
       ·(try rw [h7]); (try simp only [decide_eq_true_eq, decide_eq_false_iff_not, Bool.not_eq_true', Bool.not_eq_false', Int.not_lt, Int.not_le, Bool.not_true, Bool.not_false, Int.toNat_natCast, tn1, tn2, tnn, bne_iff_ne, beq_iff_eq, beq_eq_false_iff_ne, ne_eq, Decidable.not_not] at h7)
        refine zw3 ?_
        refine zrt ?_
        have hE : rEnd s a = (k + 1, false) := by rw [hE]; unfold eFrac; rw [if_pos (by omega), if_pos (by omega)]
        rw [hE]; refine ResQ_20 rfl rfl hcl (by simp [AV.lt, AV.ltL]) (Ret_of ?_)
        congr 3; dsimp only; omega
       ·(try rw [h7]); (try simp only [decide_eq_true_eq, decide_eq_false_iff_not, Bool.not_eq_true', Bool.not_eq_false', Int.not_lt, Int.not_le, Bool.not_true, Bool.not_false, Int.toNat_natCast, tn1, tn2, tnn, bne_iff_ne, beq_iff_eq, beq_eq_false_iff_ne, ne_eq, Decidable.not_not] at h7)
        refine AWp_skip ?_
        first | refine ⟨k + 1 + runl s (k + 1), ⟨by rw [hE]; unfold eFrac; rw [if_pos (by omega), if_neg (by omega)], by omega⟩, ⟨rfl, rfl, rfl, trivial⟩, rfl⟩ | refine ⟨k, ⟨by rw [hE]; unfold eFrac; rw [if_neg (by omega)], by omega⟩, ⟨rfl, rfl, rfl, trivial⟩, rfl⟩
      ·(try rw [h6]); (try simp only [decide_eq_true_eq, decide_eq_false_iff_not, Bool.not_eq_true', Bool.not_eq_false', Int.not_lt, Int.not_le, Bool.not_true, Bool.not_false, Int.toNat_natCast, tn1, tn2, tnn, bne_iff_ne, beq_iff_eq, beq_eq_false_iff_ne, ne_eq, Decidable.not_not] at h6)
       refine AWp_skip ?_
       first | refine ⟨k + 1 + runl s (k + 1), ⟨by rw [hE]; unfold eFrac; rw [if_pos (by omega), if_neg (by omega)], by omega⟩, ⟨rfl, rfl, rfl, trivial⟩, rfl⟩ | refine ⟨k, ⟨by rw [hE]; unfold eFrac; rw [if_neg (by omega)], by omega⟩, ⟨rfl, rfl, rfl, trivial⟩, rfl⟩
     ·rw [h5]; (try simp only [decide_eq_true_eq, decide_eq_false_iff_not, Bool.not_eq_true', Bool.not_eq_false', Int.not_lt, Int.not_le, Bool.not_true, Bool.not_false, Int.toNat_natCast, tn1, tn2, tnn, bne_iff_ne, beq_iff_eq, beq_eq_false_iff_ne, ne_eq, Decidable.not_not] at h5)
      refine zv5 ?_
      refine AWp_condF rfl ?_
      refine AWp_skip ?_
      first | refine ⟨k + 1 + runl s (k + 1), ⟨by rw [hE]; unfold eFrac; rw [if_pos (by omega), if_neg (by omega)], by omega⟩, ⟨rfl, rfl, rfl, trivial⟩, rfl⟩ | refine ⟨k, ⟨by rw [hE]; unfold eFrac; rw [if_neg (by omega)], by omega⟩, ⟨rfl, rfl, rfl, trivial⟩, rfl⟩
    ·skip
     obtain ⟨hE, hj⟩ := hj
     refine AWp_seq ?_
     refine zu5 ?_
     refine zsp 59 rfl (fun h8 => ?_) fun h8 => ?_
     ·rw [h8]; (try simp only [decide_eq_true_eq, decide_eq_false_iff_not, Bool.not_eq_true', Bool.not_eq_false', Int.not_lt, Int.not_le, Bool.not_true, Bool.not_false, Int.toNat_natCast, tn1, tn2, tnn, bne_iff_ne, beq_iff_eq, beq_eq_false_iff_ne, ne_eq, Decidable.not_not] at h8)
      refine zg5 ?_
      refine zsp 64 rfl (fun h9 => ?_) fun h9 => ?_
      ·rw [h9]; (try simp only [decide_eq_true_eq, decide_eq_false_iff_not, Bool.not_eq_true', Bool.not_eq_false', Int.not_lt, Int.not_le, Bool.not_true, Bool.not_false, Int.toNat_natCast, tn1, tn2, tnn, bne_iff_ne, beq_iff_eq, beq_eq_false_iff_ne, ne_eq, Decidable.not_not] at h9)
       refine zv6 ?_
       refine AWp_condT rfl ?_
       refine zw3 ?_
       refine AWp_join (ι := Unit) (fun b => True) (fun b => ⟨[], [(0, .str s), (6, .int .i64 (eSg s (j + 1) : Int))]⟩) (fun b => σ) ?_ (fun b hj => ?_)
       ·skip
        refine zu5 ?_
        refine zsp 77 rfl (fun h10 => ?_) fun h10 => ?_
        ·rw [h10]; (try simp only [decide_eq_true_eq, decide_eq_false_iff_not, Bool.not_eq_true', Bool.not_eq_false', Int.not_lt, Int.not_le, Bool.not_true, Bool.not_false, Int.toNat_natCast, tn1, tn2, tnn, bne_iff_ne, beq_iff_eq, beq_eq_false_iff_ne, ne_eq, Decidable.not_not] at h10)
         refine zg5 ?_
         refine zsp 82 rfl (fun h11 => ?_) fun h11 => ?_
         ·rw [h11]; (try simp only [decide_eq_true_eq, decide_eq_false_iff_not, Bool.not_eq_true', Bool.not_eq_false', Int.not_lt, Int.not_le, Bool.not_true, Bool.not_false, Int.toNat_natCast, tn1, tn2, tnn, bne_iff_ne, beq_iff_eq, beq_eq_false_iff_ne, ne_eq, Decidable.not_not] at h11)
          refine zv6 ?_
          refine AWp_condT rfl ?_
          refine AWp_regL ?_
          refine zv3 ?_
          refine ⟨(), trivial, ⟨rfl, rfl, ?_, trivial⟩, rfl⟩
          unfold eSg; first | (rw [if_pos (by omega)]; rfl) | (rw [if_neg (by omega)]; rfl)
         ·rw [h11]; (try simp only [decide_eq_true_eq, decide_eq_false_iff_not, Bool.not_eq_true', Bool.not_eq_false', Int.not_lt, Int.not_le, Bool.not_true, Bool.not_false, Int.toNat_natCast, tn1, tn2, tnn, bne_iff_ne, beq_iff_eq, beq_eq_false_iff_ne, ne_eq, Decidable.not_not] at h11)
          refine zv6 ?_
          refine AWp_cond rfl (fun h12 => ?_) (fun h12 => ?_)
          ·(try rw [h12]); (try simp only [decide_eq_true_eq, decide_eq_false_iff_not, Bool.not_eq_true', Bool.not_eq_false', Int.not_lt, Int.not_le, Bool.not_true, Bool.not_false, Int.toNat_natCast, tn1, tn2, tnn, bne_iff_ne, beq_iff_eq, beq_eq_false_iff_ne, ne_eq, Decidable.not_not] at h12)
           refine AWp_regL ?_
           refine zv3 ?_
           refine ⟨(), trivial, ⟨rfl, rfl, ?_, trivial⟩, rfl⟩
           unfold eSg; first | (rw [if_pos (by omega)]; rfl) | (rw [if_neg (by omega)]; rfl)
          ·(try rw [h12]); (try simp only [decide_eq_true_eq, decide_eq_false_iff_not, Bool.not_eq_true', Bool.not_eq_false', Int.not_lt, Int.not_le, Bool.not_true, Bool.not_false, Int.toNat_natCast, tn1, tn2, tnn, bne_iff_ne, beq_iff_eq, beq_eq_false_iff_ne, ne_eq, Decidable.not_not] at h12)
           refine AWp_skip ?_
           refine ⟨(), trivial, ⟨rfl, rfl, ?_, trivial⟩, rfl⟩
           unfold eSg; first | (rw [if_pos (by omega)]; rfl) | (rw [if_neg (by omega)]; rfl)
        ·rw [h10]; (try simp only [decide_eq_true_eq, decide_eq_false_iff_not, Bool.not_eq_true', Bool.not_eq_false', Int.not_lt, Int.not_le, Bool.not_true, Bool.not_false, Int.toNat_natCast, tn1, tn2, tnn, bne_iff_ne, beq_iff_eq, beq_eq_false_iff_ne, ne_eq, Decidable.not_not] at h10)
         refine zg10 ?_
         refine zg1 ?_
         refine zon ?_
         refine AWp_condF rfl ?_
         refine AWp_skip ?_
         refine ⟨(), trivial, ⟨rfl, rfl, ?_, trivial⟩, rfl⟩
         unfold eSg; first | (rw [if_pos (by omega)]; rfl) | (rw [if_neg (by omega)]; rfl)
       ·skip
        have hi3 := eSg_le (s := s) (a := j + 1) (by omega)
        have hr3 := runl_le s (eSg s (j + 1))
        refine zu2 ?_
        refine zt rfl (zc rfl (run_n s (eSg s (j + 1)) _ hs (by omega))) ?_
        refine zv1 ?_
        refine zw4 ?_
        refine zw2 ?_
        refine AWp_cond rfl (fun h13 => ?_) (fun h13 => ?_)
        ·(try rw [h13]); (try simp only [decide_eq_true_eq, decide_eq_false_iff_not, Bool.not_eq_true', Bool.not_eq_false', Int.not_lt, Int.not_le, Bool.not_true, Bool.not_false, Int.toNat_natCast, tn1, tn2, tnn, bne_iff_ne, beq_iff_eq, beq_eq_false_iff_ne, ne_eq, Decidable.not_not] at h13)
         refine zw3 ?_
         refine zrt ?_
         first | (have hE2 : rEnd s a = (eSg s (j + 1), false) := by rw [hE]; unfold ePow; rw [if_pos (by omega), if_pos (by omega)]); rw [hE2]; (refine ResQ_20 rfl rfl hcl (by simp [AV.lt, AV.ltL]) (Ret_of ?_)); congr 3; dsimp only; omega | (have hE2 : rEnd s a = (eSg s (j + 1) + runl s (eSg s (j + 1)), true) := by rw [hE]; unfold ePow; rw [if_pos (by omega), if_neg (by omega)]); rw [hE2]; exact ResQ_20 rfl rfl hcl (by simp [AV.lt, AV.ltL]) (Ret_of rfl) | (have hE2 : rEnd s a = (j, true) := by rw [hE]; unfold ePow; rw [if_neg (by omega)]); rw [hE2]; exact ResQ_20 rfl rfl hcl (by simp [AV.lt, AV.ltL]) (Ret_of rfl)
        ·(try rw [h13]); (try simp only [decide_eq_true_eq, decide_eq_false_iff_not, Bool.not_eq_true', Bool.not_eq_false', Int.not_lt, Int.not_le, Bool.not_true, Bool.not_false, Int.toNat_natCast, tn1, tn2, tnn, bne_iff_ne, beq_iff_eq, beq_eq_false_iff_ne, ne_eq, Decidable.not_not] at h13)
         refine AWp_skip ?_
         refine zw3 ?_
         refine zrt ?_
         first | (have hE2 : rEnd s a = (eSg s (j + 1), false) := by rw [hE]; unfold ePow; rw [if_pos (by omega), if_pos (by omega)]); rw [hE2]; (refine ResQ_20 rfl rfl hcl (by simp [AV.lt, AV.ltL]) (Ret_of ?_)); congr 3; dsimp only; omega | (have hE2 : rEnd s a = (eSg s (j + 1) + runl s (eSg s (j + 1)), true) := by rw [hE]; unfold ePow; rw [if_pos (by omega), if_neg (by omega)]); rw [hE2]; exact ResQ_20 rfl rfl hcl (by simp [AV.lt, AV.ltL]) (Ret_of rfl) | (have hE2 : rEnd s a = (j, true) := by rw [hE]; unfold ePow; rw [if_neg (by omega)]); rw [hE2]; exact ResQ_20 rfl rfl hcl (by simp [AV.lt, AV.ltL]) (Ret_of rfl)
      ·rw [h9]; (try simp only [decide_eq_true_eq, decide_eq_false_iff_not, Bool.not_eq_true', Bool.not_eq_false', Int.not_lt, Int.not_le, Bool.not_true, Bool.not_false, Int.toNat_natCast, tn1, tn2, tnn, bne_iff_ne, beq_iff_eq, beq_eq_false_iff_ne, ne_eq, Decidable.not_not] at h9)
       refine zv6 ?_
       refine AWp_cond rfl (fun h14 => ?_) (fun h14 => ?_)
       ·(try rw [h14]); (try simp only [decide_eq_true_eq, decide_eq_false_iff_not, Bool.not_eq_true', Bool.not_eq_false', Int.not_lt, Int.not_le, Bool.not_true, Bool.not_false, Int.toNat_natCast, tn1, tn2, tnn, bne_iff_ne, beq_iff_eq, beq_eq_false_iff_ne, ne_eq, Decidable.not_not] at h14)
        refine zw3 ?_
        refine AWp_join (ι := Unit) (fun b => True) (fun b => ⟨[], [(0, .str s), (6, .int .i64 (eSg s (j + 1) : Int))]⟩) (fun b => σ) ?_ (fun b hj => ?_)
        ·skip
         refine zu5 ?_
         refine zsp 77 rfl (fun h15 => ?_) fun h15 => ?_
         ·rw [h15]; (try simp only [decide_eq_true_eq, decide_eq_false_iff_not, Bool.not_eq_true', Bool.not_eq_false', Int.not_lt, Int.not_le, Bool.not_true, Bool.not_false, Int.toNat_natCast, tn1, tn2, tnn, bne_iff_ne, beq_iff_eq, beq_eq_false_iff_ne, ne_eq, Decidable.not_not] at h15)
          refine zg5 ?_
          refine zsp 82 rfl (fun h16 => ?_) fun h16 => ?_
          ·rw [h16]; (try simp only [decide_eq_true_eq, decide_eq_false_iff_not, Bool.not_eq_true', Bool.not_eq_false', Int.not_lt, Int.not_le, Bool.not_true, Bool.not_false, Int.toNat_natCast, tn1, tn2, tnn, bne_iff_ne, beq_iff_eq, beq_eq_false_iff_ne, ne_eq, Decidable.not_not] at h16)
           refine zv6 ?_
           refine AWp_condT rfl ?_
           refine AWp_regL ?_
           refine zv3 ?_
           refine ⟨(), trivial, ⟨rfl, rfl, ?_, trivial⟩, rfl⟩
           unfold eSg; first | (rw [if_pos (by omega)]; rfl) | (rw [if_neg (by omega)]; rfl)
          ·rw [h16]; (try simp only [decide_eq_true_eq, decide_eq_false_iff_not, Bool.not_eq_true', Bool.not_eq_false', Int.not_lt, Int.not_le, Bool.not_true, Bool.not_false, Int.toNat_natCast, tn1, tn2, tnn, bne_iff_ne, beq_iff_eq, beq_eq_false_iff_ne, ne_eq, Decidable.not_not] at h16)
           refine zv6 ?_
           refine AWp_cond rfl (fun h17 => ?_) (fun h17 => ?_)
           ·(try rw [h17]); (try simp only [decide_eq_true_eq, decide_eq_false_iff_not, Bool.not_eq_true', Bool.not_eq_false', Int.not_lt, Int.not_le, Bool.not_true, Bool.not_false, Int.toNat_natCast, tn1, tn2, tnn, bne_iff_ne, beq_iff_eq, beq_eq_false_iff_ne, ne_eq, Decidable.not_not] at h17)
            refine AWp_regL ?_
            refine zv3 ?_
            refine ⟨(), trivial, ⟨rfl, rfl, ?_, trivial⟩, rfl⟩
            unfold eSg; first | (rw [if_pos (by omega)]; rfl) | (rw [if_neg (by omega)]; rfl)
           ·(try rw [h17]); (try simp only [decide_eq_true_eq, decide_eq_false_iff_not, Bool.not_eq_true', Bool.not_eq_false', Int.not_lt, Int.not_le, Bool.not_true, Bool.not_false, Int.toNat_natCast, tn1, tn2, tnn, bne_iff_ne, beq_iff_eq, beq_eq_false_iff_ne, ne_eq, Decidable.not_not] at h17)
            refine AWp_skip ?_
            refine ⟨(), trivial, ⟨rfl, rfl, ?_, trivial⟩, rfl⟩
            unfold eSg; first | (rw [if_pos (by omega)]; rfl) | (rw [if_neg (by omega)]; rfl)
         ·rw [h15]; (try simp only [decide_eq_true_eq, decide_eq_false_iff_not, Bool.not_eq_true', Bool.not_eq_false', Int.not_lt, Int.not_le, Bool.not_true, Bool.not_false, Int.toNat_natCast, tn1, tn2, tnn, bne_iff_ne, beq_iff_eq, beq_eq_false_iff_ne, ne_eq, Decidable.not_not] at h15)
          refine zg10 ?_
          refine zg1 ?_
          refine zon ?_
          refine AWp_condF rfl ?_
          refine AWp_skip ?_
          refine ⟨(), trivial, ⟨rfl, rfl, ?_, trivial⟩, rfl⟩
          unfold eSg; first | (rw [if_pos (by omega)]; rfl) | (rw [if_neg (by omega)]; rfl)
        ·skip
         have hi3 := eSg_le (s := s) (a := j + 1) (by omega)
         have hr3 := runl_le s (eSg s (j + 1))
         refine zu2 ?_
         refine zt rfl (zc rfl (run_n s (eSg s (j + 1)) _ hs (by omega))) ?_
         refine zv1 ?_
         refine zw4 ?_
         refine zw2 ?_
         refine AWp_cond rfl (fun h18 => ?_) (fun h18 => ?_)
         ·(try rw [h18]); (try simp only [decide_eq_true_eq, decide_eq_false_iff_not, Bool.not_eq_true', Bool.not_eq_false', Int.not_lt, Int.not_le, Bool.not_true, Bool.not_false, Int.toNat_natCast, tn1, tn2, tnn, bne_iff_ne, beq_iff_eq, beq_eq_false_iff_ne, ne_eq, Decidable.not_not] at h18)
          refine zw3 ?_
          refine zrt ?_
          first | (have hE2 : rEnd s a = (eSg s (j + 1), false) := by rw [hE]; unfold ePow; rw [if_pos (by omega), if_pos (by omega)]); rw [hE2]; (refine ResQ_20 rfl rfl hcl (by simp [AV.lt, AV.ltL]) (Ret_of ?_)); congr 3; dsimp only; omega | (have hE2 : rEnd s a = (eSg s (j + 1) + runl s (eSg s (j + 1)), true) := by rw [hE]; unfold ePow; rw [if_pos (by omega), if_neg (by omega)]); rw [hE2]; exact ResQ_20 rfl rfl hcl (by simp [AV.lt, AV.ltL]) (Ret_of rfl) | (have hE2 : rEnd s a = (j, true) := by rw [hE]; unfold ePow; rw [if_neg (by omega)]); rw [hE2]; exact ResQ_20 rfl rfl hcl (by simp [AV.lt, AV.ltL]) (Ret_of rfl)
         ·(try rw [h18]); (try simp only [decide_eq_true_eq, decide_eq_false_iff_not, Bool.not_eq_true', Bool.not_eq_false', Int.not_lt, Int.not_le, Bool.not_true, Bool.not_false, Int.toNat_natCast, tn1, tn2, tnn, bne_iff_ne, beq_iff_eq, beq_eq_false_iff_ne, ne_eq, Decidable.not_not] at h18)
          refine AWp_skip ?_
          refine zw3 ?_
          refine zrt ?_
          first | (have hE2 : rEnd s a = (eSg s (j + 1), false) := by rw [hE]; unfold ePow; rw [if_pos (by omega), if_pos (by omega)]); rw [hE2]; (refine ResQ_20 rfl rfl hcl (by simp [AV.lt, AV.ltL]) (Ret_of ?_)); congr 3; dsimp only; omega | (have hE2 : rEnd s a = (eSg s (j + 1) + runl s (eSg s (j + 1)), true) := by rw [hE]; unfold ePow; rw [if_pos (by omega), if_neg (by omega)]); rw [hE2]; exact ResQ_20 rfl rfl hcl (by simp [AV.lt, AV.ltL]) (Ret_of rfl) | (have hE2 : rEnd s a = (j, true) := by rw [hE]; unfold ePow; rw [if_neg (by omega)]); rw [hE2]; exact ResQ_20 rfl rfl hcl (by simp [AV.lt, AV.ltL]) (Ret_of rfl)
       ·(try rw [h14]); (try simp only [decide_eq_true_eq, decide_eq_false_iff_not, Bool.not_eq_true', Bool.not_eq_false', Int.not_lt, Int.not_le, Bool.not_true, Bool.not_false, Int.toNat_natCast, tn1, tn2, tnn, bne_iff_ne, beq_iff_eq, beq_eq_false_iff_ne, ne_eq, Decidable.not_not] at h14)
        refine AWp_skip ?_
        refine zw3 ?_
        refine zrt ?_
        first | (have hE2 : rEnd s a = (eSg s (j + 1), false) := by rw [hE]; unfold ePow; rw [if_pos (by omega), if_pos (by omega)]); rw [hE2]; (refine ResQ_20 rfl rfl hcl (by simp [AV.lt, AV.ltL]) (Ret_of ?_)); congr 3; dsimp only; omega | (have hE2 : rEnd s a = (eSg s (j + 1) + runl s (eSg s (j + 1)), true) := by rw [hE]; unfold ePow; rw [if_pos (by omega), if_neg (by omega)]); rw [hE2]; exact ResQ_20 rfl rfl hcl (by simp [AV.lt, AV.ltL]) (Ret_of rfl) | (have hE2 : rEnd s a = (j, true) := by rw [hE]; unfold ePow; rw [if_neg (by omega)]); rw [hE2]; exact ResQ_20 rfl rfl hcl (by simp [AV.lt, AV.ltL]) (Ret_of rfl)
     ·rw [h8]; (try simp only [decide_eq_true_eq, decide_eq_false_iff_not, Bool.not_eq_true', Bool.not_eq_false', Int.not_lt, Int.not_le, Bool.not_true, Bool.not_false, Int.toNat_natCast, tn1, tn2, tnn, bne_iff_ne, beq_iff_eq, beq_eq_false_iff_ne, ne_eq, Decidable.not_not] at h8)
      refine zg10 ?_
      refine zg1 ?_
      refine zon ?_
      refine AWp_condF rfl ?_
      refine AWp_skip ?_
      refine zw3 ?_
      refine zrt ?_
      first | (have hE2 : rEnd s a = (eSg s (j + 1), false) := by rw [hE]; unfold ePow; rw [if_pos (by omega), if_pos (by omega)]); rw [hE2]; (refine ResQ_20 rfl rfl hcl (by simp [AV.lt, AV.ltL]) (Ret_of ?_)); congr 3; dsimp only; omega | (have hE2 : rEnd s a = (eSg s (j + 1) + runl s (eSg s (j + 1)), true) := by rw [hE]; unfold ePow; rw [if_pos (by omega), if_neg (by omega)]); rw [hE2]; exact ResQ_20 rfl rfl hcl (by simp [AV.lt, AV.ltL]) (Ret_of rfl) | (have hE2 : rEnd s a = (j, true) := by rw [hE]; unfold ePow; rw [if_neg (by omega)]); rw [hE2]; exact ResQ_20 rfl rfl hcl (by simp [AV.lt, AV.ltL]) (Ret_of rfl)
end Lg
set_option maxRecDepth 20000
set_option maxHeartbeats 4000000
namespace Lg
open Go Go.Proofs Go.RowKit
variable [GLay] 
theorem hex_c (s : ByteArray) (a : Nat) (σ : List AO) (hs : s.size ≤ 1000000) (ha : a ≤ 2000000) : ACalls Tryd.prog 113 [.str s, .int .i64 (a : Int)] σ (Ret (.tup [.int .i64 (rhex s a).1, .int .i64 (rhex s a).2]) σ) := by
 refine ACalls_body Tryd.func113 rfl Tryd.ntmps113 (res2 Tryd.results113) (Nat.le_of_ble_eq_true rfl) (fun hcl hal => ?_)
 refine zw2 ?_
 refine zw1 ?_
 refine AWp_seq ?_
 refine zw2 ?_
 refine AWp_block ?_
 -- loop 0 LIVE 0:param 1:param 4:assign 5:assign 6:assign 7:assign
 refine AWp_loop (ι := Nat × Int) (fun q => hexF s q.1 (a + 4) q.2 = rhex s a ∧ a ≤ q.1 ∧ 0 ≤ q.2 ∧ ((q.1 = a ∧ q.2 = 0) ∨ (q.1 = a + 1 ∧ q.2 < 16) ∨ (q.1 = a + 2 ∧ q.2 < 256) ∨ (q.1 = a + 3 ∧ q.2 < 4096) ∨ (q.1 = a + 4 ∧ q.2 < 65536))) (fun q => ⟨[], [(0, .str s), (1, .int .i64 (a : Int)), (6, .int .i64 q.2), (7, .int .i64 (q.1 : Int))]⟩) (fun q => σ) (fun q => a + 4 - q.1) ((a, 0)) (⟨rfl, Nat.le_refl _, Int.le_refl _, .inl ⟨rfl, rfl⟩⟩) ?_ rfl (fun q hq => ?_)
 ·exact ⟨rfl, rfl, rfl, rfl, rfl, trivial⟩
 obtain ⟨i, v⟩ := q
 obtain ⟨hq1, hq2, hq3, hq4⟩ := hq
 simp only at hq1 hq2 hq3 hq4 ⊢
 have hbl := bat_lt s i
 refine AWp_seq ?_
 refine zw4 ?_
 refine AWp_cond rfl (fun h1 => ?_) (fun h1 => ?_)
 ·(try rw [h1]); (try simp only [decide_eq_true_eq, decide_eq_false_iff_not, Bool.not_eq_true', Bool.not_eq_false', Int.not_lt, Int.not_le, Bool.not_true, Bool.not_false, Int.toNat_natCast, tn1, tn2, tnn, bne_iff_ne, beq_iff_eq, beq_eq_false_iff_ne, ne_eq, Decidable.not_not] at h1)
  refine AWp_skip ?_
  refine AWp_seq ?_
  refine AWp_block ?_
  refine AWp_seq ?_
  refine zw4 ?_
  refine AWp_cond rfl (fun h2 => ?_) (fun h2 => ?_)
  ·(try rw [h2]); (try simp only [decide_eq_true_eq, decide_eq_false_iff_not, Bool.not_eq_true', Bool.not_eq_false', Int.not_lt, Int.not_le, Bool.not_true, Bool.not_false, Int.toNat_natCast, tn1, tn2, tnn, bne_iff_ne, beq_iff_eq, beq_eq_false_iff_ne, ne_eq, Decidable.not_not] at h2)
   refine zw3 ?_
   refine zrt ?_
   first | (have hE : rhex s a = (0, (i : Int)) := by rw [← hq1, hexF.eq_1 s i, if_pos (by omega)]; first | (rw [if_pos (by omega)]; done) | (rw [if_neg (by omega), if_pos (by omega)]; done)); rw [hE]; exact ResQ_20 rfl rfl hcl (by simp [AV.lt, AV.ltL]) (Ret_of rfl) | (have hE : rhex s a = (v, -1) := by rw [← hq1, hexF.eq_1 s i, if_neg (by omega)]); rw [hE]; exact ResQ_20 rfl rfl hcl (by simp [AV.lt, AV.ltL]) (Ret_of rfl)
  ·(try rw [h2]); (try simp only [decide_eq_true_eq, decide_eq_false_iff_not, Bool.not_eq_true', Bool.not_eq_false', Int.not_lt, Int.not_le, Bool.not_true, Bool.not_false, Int.toNat_natCast, tn1, tn2, tnn, bne_iff_ne, beq_iff_eq, beq_eq_false_iff_ne, ne_eq, Decidable.not_not] at h2)
   refine AWp_skip ?_
   refine zu3 ?_
   simp only [Int.toNat_natCast]
   refine zv2 ?_
   refine zw1 ?_
   refine AWp_join (ι := Unit) (fun b => True) (fun b => ⟨[], [(0, .str s), (1, .int .i64 (a : Int)), (6, .int .i64 v), (7, .int .i64 (i : Int)), (8, .int .i64 ((bat s i).toNat : Int)), (9, .int .i64 (hd1 (bat s i).toNat))]⟩) (fun b => σ) ?_ (fun b hj => ?_)
   ·skip
    refine zu3 ?_
    refine zsp 28 rfl (fun h3 => ?_) fun h3 => ?_
    ·rw [h3]; (try simp only [decide_eq_true_eq, decide_eq_false_iff_not, Bool.not_eq_true', Bool.not_eq_false', Int.not_lt, Int.not_le, Bool.not_true, Bool.not_false, Int.toNat_natCast, tn1, tn2, tnn, bne_iff_ne, beq_iff_eq, beq_eq_false_iff_ne, ne_eq, Decidable.not_not] at h3)
     refine zv3 ?_
     refine AWp_cond rfl (fun h4 => ?_) (fun h4 => ?_)
     ·(try rw [h4]); (try simp only [decide_eq_true_eq, decide_eq_false_iff_not, Bool.not_eq_true', Bool.not_eq_false', Int.not_lt, Int.not_le, Bool.not_true, Bool.not_false, Int.toNat_natCast, tn1, tn2, tnn, bne_iff_ne, beq_iff_eq, beq_eq_false_iff_ne, ne_eq, Decidable.not_not] at h4)
      refine AWp_regL ?_
      refine zv3 ?_
      refine ⟨(), trivial, ⟨rfl, rfl, rfl, rfl, rfl, rfl, ?_, trivial⟩, rfl⟩
      unfold hd1; first | (rw [if_pos (by omega)]; rfl) | (rw [if_neg (by omega)]; rfl)
     ·(try rw [h4]); (try simp only [decide_eq_true_eq, decide_eq_false_iff_not, Bool.not_eq_true', Bool.not_eq_false', Int.not_lt, Int.not_le, Bool.not_true, Bool.not_false, Int.toNat_natCast, tn1, tn2, tnn, bne_iff_ne, beq_iff_eq, beq_eq_false_iff_ne, ne_eq, Decidable.not_not] at h4)
      refine AWp_skip ?_
      refine ⟨(), trivial, ⟨rfl, rfl, rfl, rfl, rfl, rfl, ?_, trivial⟩, rfl⟩
      unfold hd1; first | (rw [if_pos (by omega)]; rfl) | (rw [if_neg (by omega)]; rfl)
    ·rw [h3]; (try simp only [decide_eq_true_eq, decide_eq_false_iff_not, Bool.not_eq_true', Bool.not_eq_false', Int.not_lt, Int.not_le, Bool.not_true, Bool.not_false, Int.toNat_natCast, tn1, tn2, tnn, bne_iff_ne, beq_iff_eq, beq_eq_false_iff_ne, ne_eq, Decidable.not_not] at h3)
     refine zv3 ?_
     refine AWp_condF rfl ?_
     refine AWp_skip ?_
     refine ⟨(), trivial, ⟨rfl, rfl, rfl, rfl, rfl, rfl, ?_, trivial⟩, rfl⟩
     unfold hd1; first | (rw [if_pos (by omega)]; rfl) | (rw [if_neg (by omega)]; rfl)
   ·skip
    refine AWp_join (ι := Unit) (fun b => True) (fun b => ⟨[], [(0, .str s), (1, .int .i64 (a : Int)), (6, .int .i64 v), (7, .int .i64 (i : Int)), (8, .int .i64 ((bat s i).toNat : Int)), (9, .int .i64 (hd2 (bat s i).toNat))]⟩) (fun b => σ) ?_ (fun b hj => ?_)
    ·skip
     refine zu3 ?_
     refine zsp 36 rfl (fun h5 => ?_) fun h5 => ?_
     ·rw [h5]; (try simp only [decide_eq_true_eq, decide_eq_false_iff_not, Bool.not_eq_true', Bool.not_eq_false', Int.not_lt, Int.not_le, Bool.not_true, Bool.not_false, Int.toNat_natCast, tn1, tn2, tnn, bne_iff_ne, beq_iff_eq, beq_eq_false_iff_ne, ne_eq, Decidable.not_not] at h5)
      refine zv3 ?_
      refine AWp_cond rfl (fun h6 => ?_) (fun h6 => ?_)
      ·(try rw [h6]); (try simp only [decide_eq_true_eq, decide_eq_false_iff_not, Bool.not_eq_true', Bool.not_eq_false', Int.not_lt, Int.not_le, Bool.not_true, Bool.not_false, Int.toNat_natCast, tn1, tn2, tnn, bne_iff_ne, beq_iff_eq, beq_eq_false_iff_ne, ne_eq, Decidable.not_not] at h6)
       refine AWp_regL ?_
       refine zv3 ?_
       refine ⟨(), trivial, ⟨rfl, rfl, rfl, rfl, rfl, rfl, ?_, trivial⟩, rfl⟩
       unfold hd2; first | (rw [if_pos (by omega)]; rfl) | (rw [if_neg (by omega)]; rfl)
      ·(try rw [h6]); (try simp only [decide_eq_true_eq, decide_eq_false_iff_not, Bool.not_eq_true', Bool.not_eq_false', Int.not_lt, Int.not_le, Bool.not_true, Bool.not_false, Int.toNat_natCast, tn1, tn2, tnn, bne_iff_ne, beq_iff_eq, beq_eq_false_iff_ne, ne_eq, Decidable.not_not] at h6)
       refine AWp_skip ?_
       refine ⟨(), trivial, ⟨rfl, rfl, rfl, rfl, rfl, rfl, ?_, trivial⟩, rfl⟩
       unfold hd2; first | (rw [if_pos (by omega)]; rfl) | (rw [if_neg (by omega)]; rfl)
     ·rw [h5]; (try simp only [decide_eq_true_eq, decide_eq_false_iff_not, Bool.not_eq_true', Bool.not_eq_false', Int.not_lt, Int.not_le, Bool.not_true, Bool.not_false, Int.toNat_natCast, tn1, tn2, tnn, bne_iff_ne, beq_iff_eq, beq_eq_false_iff_ne, ne_eq, Decidable.not_not] at h5)
      refine zv3 ?_
      refine AWp_condF rfl ?_
      refine AWp_skip ?_
      refine ⟨(), trivial, ⟨rfl, rfl, rfl, rfl, rfl, rfl, ?_, trivial⟩, rfl⟩
      unfold hd2; first | (rw [if_pos (by omega)]; rfl) | (rw [if_neg (by omega)]; rfl)
    ·skip
     refine AWp_join (ι := Unit) (fun b => True) (fun b => ⟨[], [(0, .str s), (1, .int .i64 (a : Int)), (6, .int .i64 v), (7, .int .i64 (i : Int)), (8, .int .i64 ((bat s i).toNat : Int)), (9, .int .i64 (hexd (bat s i).toNat))]⟩) (fun b => σ) ?_ (fun b hj => ?_)
     ·skip
      refine zu3 ?_
      refine zsp 44 rfl (fun h7 => ?_) fun h7 => ?_
      ·rw [h7]; (try simp only [decide_eq_true_eq, decide_eq_false_iff_not, Bool.not_eq_true', Bool.not_eq_false', Int.not_lt, Int.not_le, Bool.not_true, Bool.not_false, Int.toNat_natCast, tn1, tn2, tnn, bne_iff_ne, beq_iff_eq, beq_eq_false_iff_ne, ne_eq, Decidable.not_not] at h7)
       refine zv3 ?_
       refine AWp_cond rfl (fun h8 => ?_) (fun h8 => ?_)
       ·(try rw [h8]); (try simp only [decide_eq_true_eq, decide_eq_false_iff_not, Bool.not_eq_true', Bool.not_eq_false', Int.not_lt, Int.not_le, Bool.not_true, Bool.not_false, Int.toNat_natCast, tn1, tn2, tnn, bne_iff_ne, beq_iff_eq, beq_eq_false_iff_ne, ne_eq, Decidable.not_not] at h8)
        refine AWp_regL ?_
        refine zv3 ?_
        refine ⟨(), trivial, ⟨rfl, rfl, rfl, rfl, rfl, rfl, ?_, trivial⟩, rfl⟩
        unfold hexd; first | (rw [if_pos (by omega)]; rfl) | (rw [if_neg (by omega)]; rfl)
       ·(try rw [h8]); (try simp only [decide_eq_true_eq, decide_eq_false_iff_not, Bool.not_eq_true', Bool.not_eq_false', Int.not_lt, Int.not_le, Bool.not_true, Bool.not_false, Int.toNat_natCast, tn1, tn2, tnn, bne_iff_ne, beq_iff_eq, beq_eq_false_iff_ne, ne_eq, Decidable.not_not] at h8)
        refine AWp_skip ?_
        refine ⟨(), trivial, ⟨rfl, rfl, rfl, rfl, rfl, rfl, ?_, trivial⟩, rfl⟩
        unfold hexd; first | (rw [if_pos (by omega)]; rfl) | (rw [if_neg (by omega)]; rfl)
      ·rw [h7]; (try simp only [decide_eq_true_eq, decide_eq_false_iff_not, Bool.not_eq_true', Bool.not_eq_false', Int.not_lt, Int.not_le, Bool.not_true, Bool.not_false, Int.toNat_natCast, tn1, tn2, tnn, bne_iff_ne, beq_iff_eq, beq_eq_false_iff_ne, ne_eq, Decidable.not_not] at h7)
       refine zv3 ?_
       refine AWp_condF rfl ?_
       refine AWp_skip ?_
       refine ⟨(), trivial, ⟨rfl, rfl, rfl, rfl, rfl, rfl, ?_, trivial⟩, rfl⟩
       unfold hexd; first | (rw [if_pos (by omega)]; rfl) | (rw [if_neg (by omega)]; rfl)
     ·skip
      have hdd := hexd_lt (bat s i).toNat
      refine AWp_seq ?_
      refine zw2 ?_
      refine AWp_cond rfl (fun h9 => ?_) (fun h9 => ?_)
      ·(try rw [h9]); (try simp only [decide_eq_true_eq, decide_eq_false_iff_not, Bool.not_eq_true', Bool.not_eq_false', Int.not_lt, Int.not_le, Bool.not_true, Bool.not_false, Int.toNat_natCast, tn1, tn2, tnn, bne_iff_ne, beq_iff_eq, beq_eq_false_iff_ne, ne_eq, Decidable.not_not] at h9)
       refine zw3 ?_
       refine zrt ?_
       first | (have hE : rhex s a = (0, (i : Int)) := by rw [← hq1, hexF.eq_1 s i, if_pos (by omega)]; first | (rw [if_pos (by omega)]; done) | (rw [if_neg (by omega), if_pos (by omega)]; done)); rw [hE]; exact ResQ_20 rfl rfl hcl (by simp [AV.lt, AV.ltL]) (Ret_of rfl) | (have hE : rhex s a = (v, -1) := by rw [← hq1, hexF.eq_1 s i, if_neg (by omega)]); rw [hE]; exact ResQ_20 rfl rfl hcl (by simp [AV.lt, AV.ltL]) (Ret_of rfl)
      ·(try rw [h9]); (try simp only [decide_eq_true_eq, decide_eq_false_iff_not, Bool.not_eq_true', Bool.not_eq_false', Int.not_lt, Int.not_le, Bool.not_true, Bool.not_false, Int.toNat_natCast, tn1, tn2, tnn, bne_iff_ne, beq_iff_eq, beq_eq_false_iff_ne, ne_eq, Decidable.not_not] at h9)
       refine AWp_skip ?_
       refine AWp_regL ?_
       refine zv5 ?_
       refine AWp_regL ?_
       refine zv3 ?_
       refine ⟨(i + 1, 16 * v + hexd (bat s i).toNat), σ.length, ⟨?_, ?_, ?_, ?_⟩, ?_, Nat.le_refl _, ⟨rfl, rfl, rfl, rfl, rfl, trivial⟩, hcl, ?_, List.take_length⟩
       ·rw [← hq1, hexF.eq_1 s i, if_pos (by omega), if_neg (by omega), if_neg (by omega)]
       ·simp only; omega
       ·simp only; omega
       ·simp only; omega
       ·simp only; omega
       ·simp [ltE, AV.lt]
 ·(try rw [h1]); (try simp only [decide_eq_true_eq, decide_eq_false_iff_not, Bool.not_eq_true', Bool.not_eq_false', Int.not_lt, Int.not_le, Bool.not_true, Bool.not_false, Int.toNat_natCast, tn1, tn2, tnn, bne_iff_ne, beq_iff_eq, beq_eq_false_iff_ne, ne_eq, Decidable.not_not] at h1)
  refine AWp_exit ?_
  refine zw3 ?_
  refine zrt ?_
  first | (have hE : rhex s a = (0, (i : Int)) := by rw [← hq1, hexF.eq_1 s i, if_pos (by omega)]; first | (rw [if_pos (by omega)]; done) | (rw [if_neg (by omega), if_pos (by omega)]; done)); rw [hE]; exact ResQ_20 rfl rfl hcl (by simp [AV.lt, AV.ltL]) (Ret_of rfl) | (have hE : rhex s a = (v, -1) := by rw [← hq1, hexF.eq_1 s i, if_neg (by omega)]); rw [hE]; exact ResQ_20 rfl rfl hcl (by simp [AV.lt, AV.ltL]) (Ret_of rfl)

theorem low_c (s : ByteArray) (a : Nat) (σ : List AO) (hs : s.size ≤ 1000000) (ha : a ≤ 2000000) : ACalls Tryd.prog 114 [.str s, .int .i64 (a : Int)] σ (Ret (.int .i64 (rlow s a)) σ) := by
 refine ACalls_body Tryd.func114 rfl Tryd.ntmps114 (res1 Tryd.results114) (Nat.le_of_ble_eq_true rfl) (fun hcl hal => ?_)
 have hh := rhex_ok s (a + 2)
 refine zw1 ?_
 refine AWp_seq ?_
 refine zw5 ?_
 refine AWp_cond rfl (fun h1 => ?_) (fun h1 => ?_)
 ·(try rw [h1]); (try simp only [decide_eq_true_eq, decide_eq_false_iff_not, Bool.not_eq_true', Bool.not_eq_false', Int.not_lt, Int.not_le, Bool.not_true, Bool.not_false, Int.toNat_natCast, tn1, tn2, tnn, bne_iff_ne, beq_iff_eq, beq_eq_false_iff_ne, ne_eq, Decidable.not_not] at h1)
  refine zw1 ?_
  refine zrt ?_
  refine ResQ_10 rfl hcl (by simp [AV.lt, AV.ltL]) (Ret_of ?_)
  congr 1; unfold rlow; first | (rw [if_pos (by omega)]; done) | (rw [if_neg (by omega), if_pos (by omega)]; done) | (rw [if_neg (by omega), if_neg (by omega), if_pos (by omega)]; done) | (rw [if_neg (by omega), if_neg (by omega), if_neg (by omega)]; done)
 ·(try rw [h1]); (try simp only [decide_eq_true_eq, decide_eq_false_iff_not, Bool.not_eq_true', Bool.not_eq_false', Int.not_lt, Int.not_le, Bool.not_true, Bool.not_false, Int.toNat_natCast, tn1, tn2, tnn, bne_iff_ne, beq_iff_eq, beq_eq_false_iff_ne, ne_eq, Decidable.not_not] at h1)
  refine AWp_skip ?_
  refine AWp_seq ?_
  refine zu5 ?_
  refine zsp 16 rfl (fun h2 => ?_) fun h2 => ?_
  ·rw [h2]; (try simp only [decide_eq_true_eq, decide_eq_false_iff_not, Bool.not_eq_true', Bool.not_eq_false', Int.not_lt, Int.not_le, Bool.not_true, Bool.not_false, Int.toNat_natCast, tn1, tn2, tnn, bne_iff_ne, beq_iff_eq, beq_eq_false_iff_ne, ne_eq, Decidable.not_not] at h2)
   refine zv6 ?_
   refine AWp_condT rfl ?_
   refine zw1 ?_
   refine zrt ?_
   refine ResQ_10 rfl hcl (by simp [AV.lt, AV.ltL]) (Ret_of ?_)
   congr 1; unfold rlow; first | (rw [if_pos (by omega)]; done) | (rw [if_neg (by omega), if_pos (by omega)]; done) | (rw [if_neg (by omega), if_neg (by omega), if_pos (by omega)]; done) | (rw [if_neg (by omega), if_neg (by omega), if_neg (by omega)]; done)
  ·rw [h2]; (try simp only [decide_eq_true_eq, decide_eq_false_iff_not, Bool.not_eq_true', Bool.not_eq_false', Int.not_lt, Int.not_le, Bool.not_true, Bool.not_false, Int.toNat_natCast, tn1, tn2, tnn, bne_iff_ne, beq_iff_eq, beq_eq_false_iff_ne, ne_eq, Decidable.not_not] at h2)
   refine zv6 ?_
   refine AWp_cond rfl (fun h3 => ?_) (fun h3 => ?_)
   ·(try rw [h3]); (try simp only [decide_eq_true_eq, decide_eq_false_iff_not, Bool.not_eq_true', Bool.not_eq_false', Int.not_lt, Int.not_le, Bool.not_true, Bool.not_false, Int.toNat_natCast, tn1, tn2, tnn, bne_iff_ne, beq_iff_eq, beq_eq_false_iff_ne, ne_eq, Decidable.not_not] at h3)
    refine zw1 ?_
    refine zrt ?_
    refine ResQ_10 rfl hcl (by simp [AV.lt, AV.ltL]) (Ret_of ?_)
    congr 1; unfold rlow; first | (rw [if_pos (by omega)]; done) | (rw [if_neg (by omega), if_pos (by omega)]; done) | (rw [if_neg (by omega), if_neg (by omega), if_pos (by omega)]; done) | (rw [if_neg (by omega), if_neg (by omega), if_neg (by omega)]; done)
   ·(try rw [h3]); (try simp only [decide_eq_true_eq, decide_eq_false_iff_not, Bool.not_eq_true', Bool.not_eq_false', Int.not_lt, Int.not_le, Bool.not_true, Bool.not_false, Int.toNat_natCast, tn1, tn2, tnn, bne_iff_ne, beq_iff_eq, beq_eq_false_iff_ne, ne_eq, Decidable.not_not] at h3)
    refine AWp_skip ?_
    refine zu3 ?_
    refine zt rfl (zc rfl (hex_c s (a + 2) _ hs (by omega))) ?_
    refine zv5 ?_
    refine AWp_seq ?_
    refine zu3 ?_
    refine zsp 32 rfl (fun h4 => ?_) fun h4 => ?_
    ·rw [h4]; (try simp only [decide_eq_true_eq, decide_eq_false_iff_not, Bool.not_eq_true', Bool.not_eq_false', Int.not_lt, Int.not_le, Bool.not_true, Bool.not_false, Int.toNat_natCast, tn1, tn2, tnn, bne_iff_ne, beq_iff_eq, beq_eq_false_iff_ne, ne_eq, Decidable.not_not] at h4)
     refine zv7 ?_
     refine AWp_condT rfl ?_
     refine zw1 ?_
     refine zrt ?_
     refine ResQ_10 rfl hcl (by simp [AV.lt, AV.ltL]) (Ret_of ?_)
     congr 1; unfold rlow; first | (rw [if_pos (by omega)]; done) | (rw [if_neg (by omega), if_pos (by omega)]; done) | (rw [if_neg (by omega), if_neg (by omega), if_pos (by omega)]; done) | (rw [if_neg (by omega), if_neg (by omega), if_neg (by omega)]; done)
    ·rw [h4]; (try simp only [decide_eq_true_eq, decide_eq_false_iff_not, Bool.not_eq_true', Bool.not_eq_false', Int.not_lt, Int.not_le, Bool.not_true, Bool.not_false, Int.toNat_natCast, tn1, tn2, tnn, bne_iff_ne, beq_iff_eq, beq_eq_false_iff_ne, ne_eq, Decidable.not_not] at h4)
     refine zg4 ?_
     refine zsp 36 rfl (fun h5 => ?_) fun h5 => ?_
     ·rw [h5]; (try simp only [decide_eq_true_eq, decide_eq_false_iff_not, Bool.not_eq_true', Bool.not_eq_false', Int.not_lt, Int.not_le, Bool.not_true, Bool.not_false, Int.toNat_natCast, tn1, tn2, tnn, bne_iff_ne, beq_iff_eq, beq_eq_false_iff_ne, ne_eq, Decidable.not_not] at h5)
      refine zv3 ?_
      refine AWp_condT rfl ?_
      refine zw1 ?_
      refine zrt ?_
      refine ResQ_10 rfl hcl (by simp [AV.lt, AV.ltL]) (Ret_of ?_)
      congr 1; unfold rlow; first | (rw [if_pos (by omega)]; done) | (rw [if_neg (by omega), if_pos (by omega)]; done) | (rw [if_neg (by omega), if_neg (by omega), if_pos (by omega)]; done) | (rw [if_neg (by omega), if_neg (by omega), if_neg (by omega)]; done)
     ·rw [h5]; (try simp only [decide_eq_true_eq, decide_eq_false_iff_not, Bool.not_eq_true', Bool.not_eq_false', Int.not_lt, Int.not_le, Bool.not_true, Bool.not_false, Int.toNat_natCast, tn1, tn2, tnn, bne_iff_ne, beq_iff_eq, beq_eq_false_iff_ne, ne_eq, Decidable.not_not] at h5)
      refine zv3 ?_
      refine AWp_cond rfl (fun h6 => ?_) (fun h6 => ?_)
      ·(try rw [h6]); (try simp only [decide_eq_true_eq, decide_eq_false_iff_not, Bool.not_eq_true', Bool.not_eq_false', Int.not_lt, Int.not_le, Bool.not_true, Bool.not_false, Int.toNat_natCast, tn1, tn2, tnn, bne_iff_ne, beq_iff_eq, beq_eq_false_iff_ne, ne_eq, Decidable.not_not] at h6)
       refine zw1 ?_
       refine zrt ?_
       refine ResQ_10 rfl hcl (by simp [AV.lt, AV.ltL]) (Ret_of ?_)
       congr 1; unfold rlow; first | (rw [if_pos (by omega)]; done) | (rw [if_neg (by omega), if_pos (by omega)]; done) | (rw [if_neg (by omega), if_neg (by omega), if_pos (by omega)]; done) | (rw [if_neg (by omega), if_neg (by omega), if_neg (by omega)]; done)
      ·(try rw [h6]); (try simp only [decide_eq_true_eq, decide_eq_false_iff_not, Bool.not_eq_true', Bool.not_eq_false', Int.not_lt, Int.not_le, Bool.not_true, Bool.not_false, Int.toNat_natCast, tn1, tn2, tnn, bne_iff_ne, beq_iff_eq, beq_eq_false_iff_ne, ne_eq, Decidable.not_not] at h6)
       refine AWp_skip ?_
       refine zw2 ?_
       refine zrt ?_
       refine ResQ_10 rfl hcl (by simp [AV.lt, AV.ltL]) (Ret_of ?_)
       congr 1; unfold rlow; first | (rw [if_pos (by omega)]; done) | (rw [if_neg (by omega), if_pos (by omega)]; done) | (rw [if_neg (by omega), if_neg (by omega), if_pos (by omega)]; done) | (rw [if_neg (by omega), if_neg (by omega), if_neg (by omega)]; done)

theorem char_c (v : Int) (σ : List AO) (h0 : 0 ≤ v) (h1 : v < 1114112) : ACalls Tryd.prog 115 [.int .i64 v] σ (Ret (.str (rchar v)) σ) := by
 refine ACalls_body Tryd.func115 rfl Tryd.ntmps115 (res1 Tryd.results115) (Nat.le_of_ble_eq_true rfl) (fun hcl hal => ?_)
 refine zw1 ?_
 refine AWp_seq ?_
 refine zw2 ?_
 refine AWp_cond rfl (fun h1 => ?_) (fun h1 => ?_)
 ·(try rw [h1]); replace h1 := zcl h1
  refine zu2 ?_
  refine zt rfl (op_buildSlice [[_]] rfl Tryd.underlying114 Tryd.sizeOf5 Tryd.zeroValue5 rfl (by decide) (by decide) rfl rfl rfl rfl rfl) ?_
  refine zt rfl (op_bytesStr (b := _) (m := 1) rfl Tryd.underlying114 Tryd.underlying5 Tryd.underlying9 (bs1 ⟨by omega, by omega⟩) rfl rfl) ?_
  refine zv1 ?_
  refine zrt ?_
  refine ResQ_10 rfl hcl (by simp [AV.lt, AV.ltL]) (Ret_of ?_)
  congr 1; unfold rchar; first | (rw [if_pos (by omega)]; done) | (rw [if_neg (by omega), if_pos (by omega)]; done) | (rw [if_neg (by omega), if_neg (by omega), if_pos (by omega)]; done) | (rw [if_neg (by omega), if_neg (by omega), if_neg (by omega)]; done)
 ·(try rw [h1]); replace h1 := zcl h1
  refine AWp_skip ?_
  refine AWp_seq ?_
  refine zw2 ?_
  refine AWp_cond rfl (fun h2 => ?_) (fun h2 => ?_)
  ·(try rw [h2]); replace h2 := zcl h2
   refine zu1 ?_
   refine zt rfl (op_quo64 rfl rfl rfl (by omega) (by omega) (by omega)) ?_
   refine zg3 ?_
   refine zt rfl (op_rem64 rfl rfl rfl (by omega) (by omega)) ?_
   refine zg2 ?_
   refine zt rfl (op_buildSlice [[_], [_]] rfl Tryd.underlying114 Tryd.sizeOf5 Tryd.zeroValue5 rfl (by decide) (by decide) rfl rfl rfl rfl rfl) ?_
   refine zt rfl (op_bytesStr (b := _) (m := 2) rfl Tryd.underlying114 Tryd.underlying5 Tryd.underlying9 (bs2 ⟨by omega, by omega⟩ ⟨by omega, by omega⟩) rfl rfl) ?_
   refine zv1 ?_
   refine zrt ?_
   refine ResQ_10 rfl hcl (by simp [AV.lt, AV.ltL]) (Ret_of ?_)
   congr 1; unfold rchar; first | (rw [if_pos (by omega)]; done) | (rw [if_neg (by omega), if_pos (by omega)]; done) | (rw [if_neg (by omega), if_neg (by omega), if_pos (by omega)]; done) | (rw [if_neg (by omega), if_neg (by omega), if_neg (by omega)]; done)
  ·(try rw [h2]); replace h2 := zcl h2
   refine AWp_skip ?_
   refine AWp_seq ?_
   refine zw2 ?_
   refine AWp_cond rfl (fun h3 => ?_) (fun h3 => ?_)
   ·(try rw [h3]); replace h3 := zcl h3
    refine zu1 ?_
    refine zt rfl (op_quo64 rfl rfl rfl (by omega) (by omega) (by omega)) ?_
    refine zg3 ?_
    refine zt rfl (op_quo64 rfl rfl rfl (by omega) (by omega) (by omega)) ?_
    refine zt rfl (op_rem64 rfl rfl rfl (by omega) (by omega)) ?_
    refine zg3 ?_
    refine zt rfl (op_rem64 rfl rfl rfl (by omega) (by omega)) ?_
    refine zg2 ?_
    refine zt rfl (op_buildSlice [[_], [_], [_]] rfl Tryd.underlying114 Tryd.sizeOf5 Tryd.zeroValue5 rfl (by decide) (by decide) rfl rfl rfl rfl rfl) ?_
    refine zt rfl (op_bytesStr (b := _) (m := 3) rfl Tryd.underlying114 Tryd.underlying5 Tryd.underlying9 (bs3 ⟨by omega, by omega⟩ ⟨by omega, by omega⟩ ⟨by omega, by omega⟩) rfl rfl) ?_
    refine zv1 ?_
    refine zrt ?_
    refine ResQ_10 rfl hcl (by simp [AV.lt, AV.ltL]) (Ret_of ?_)
    congr 1; unfold rchar; first | (rw [if_pos (by omega)]; done) | (rw [if_neg (by omega), if_pos (by omega)]; done) | (rw [if_neg (by omega), if_neg (by omega), if_pos (by omega)]; done) | (rw [if_neg (by omega), if_neg (by omega), if_neg (by omega)]; done)
   ·(try rw [h3]); replace h3 := zcl h3
    refine AWp_skip ?_
    refine zu1 ?_
    refine zt rfl (op_quo64 rfl rfl rfl (by omega) (by omega) (by omega)) ?_
    refine zg3 ?_
    refine zt rfl (op_quo64 rfl rfl rfl (by omega) (by omega) (by omega)) ?_
    refine zt rfl (op_rem64 rfl rfl rfl (by omega) (by omega)) ?_
    refine zg3 ?_
    refine zt rfl (op_quo64 rfl rfl rfl (by omega) (by omega) (by omega)) ?_
    refine zt rfl (op_rem64 rfl rfl rfl (by omega) (by omega)) ?_
    refine zg3 ?_
    refine zt rfl (op_rem64 rfl rfl rfl (by omega) (by omega)) ?_
    refine zg2 ?_
    refine zt rfl (op_buildSlice [[_], [_], [_], [_]] rfl Tryd.underlying114 Tryd.sizeOf5 Tryd.zeroValue5 rfl (by decide) (by decide) rfl rfl rfl rfl rfl) ?_
    refine zt rfl (op_bytesStr (b := _) (m := 4) rfl Tryd.underlying114 Tryd.underlying5 Tryd.underlying9 (bs4 ⟨by omega, by omega⟩ ⟨by omega, by omega⟩ ⟨by omega, by omega⟩ ⟨by omega, by omega⟩) rfl rfl) ?_
    refine zv1 ?_
    refine zrt ?_
    refine ResQ_10 rfl hcl (by simp [AV.lt, AV.ltL]) (Ret_of ?_)
    congr 1; unfold rchar; first | (rw [if_pos (by omega)]; done) | (rw [if_neg (by omega), if_pos (by omega)]; done) | (rw [if_neg (by omega), if_neg (by omega), if_pos (by omega)]; done) | (rw [if_neg (by omega), if_neg (by omega), if_neg (by omega)]; done)
end Lg
set_option maxRecDepth 20000
set_option maxHeartbeats 4000000
namespace Lg
open Go Go.Proofs Go.RowKit
variable [GLay] 
theorem utf8_c (s : ByteArray) (a : Int) (σ : List AO) (hs : s.size ≤ 140737488355328) (h0 : 0 ≤ a) (ha : a < s.size) : ACalls Tryd.prog 47 [.str s, .int .i64 a] σ (Ret (.int .i64 (u8 s a.toNat : Int)) σ) := by
 refine ACalls_body Tryd.func47 rfl Tryd.ntmps47 (res1 Tryd.results47) (Nat.le_of_ble_eq_true rfl) (fun hcl hal => ?_)
 have c0 := bat_lt s a.toNat
 have c1 := bat_lt s (a.toNat + 1)
 have c2 := bat_lt s (a.toNat + 2)
 have c3 := bat_lt s (a.toNat + 3)
 refine zw1 ?_
 refine zw5 ?_
 refine AWp_seq ?_
 refine zw2 ?_
 refine AWp_cond rfl (fun h1 => ?_) (fun h1 => ?_)
 ·(try rw [h1]); replace h1 := zcl h1
  refine zw1 ?_
  refine zrt ?_
  refine ResQ_10 rfl hcl trivial (Ret_of ?_)
  congr 1
  unfold u8
  first | rw [u8N_1 (by omega)] | rw [u8N_2 (by omega) (by omega)] | rw [u8N_3 (by omega) (by omega) rfl] | rw [u8N_4 (by omega) (by omega) rfl] | rw [u8N_0 (by omega) (by omega)]
  all_goals (try split) <;> omega
 ·(try rw [h1]); replace h1 := zcl h1
  refine AWp_skip ?_
  refine zw1 ?_
  refine zw1 ?_
  refine zw1 ?_
  refine AWp_seq ?_
  refine zu3 ?_
  refine zsp 19 rfl (fun h2 => ?_) fun h2 => ?_
  ·rw [h2]; replace h2 := zcl h2
   refine zv3 ?_
   refine AWp_cond rfl (fun h3 => ?_) (fun h3 => ?_)
   ·(try rw [h3]); replace h3 := zcl h3
    refine zw1 ?_
    refine zw1 ?_
    refine AWp_regL ?_
    refine zv3 ?_
    refine AWp_seq ?_
    refine zw6 ?_
    refine AWp_cond rfl (fun h4 => ?_) (fun h4 => ?_)
    ·(try rw [h4]); replace h4 := zcl h4
     refine zw1 ?_
     refine zrt ?_
     refine ResQ_10 rfl hcl trivial (Ret_of ?_)
     congr 1
     unfold u8
     first | rw [u8N_1 (by omega)] | rw [u8N_2 (by omega) (by omega)] | rw [u8N_3 (by omega) (by omega) rfl] | rw [u8N_4 (by omega) (by omega) rfl] | rw [u8N_0 (by omega) (by omega)]
     all_goals (try split) <;> omega
    ·(try rw [h4]); replace h4 := zcl h4
     refine AWp_skip ?_
     refine AWp_seq ?_
     refine zw1 ?_
     refine AWp_block ?_
     -- loop 0 LIVE 0:param 1:param 4:assign 6:assign 7:assign 8:assign 9:assign
     refine AWp_loop (ι := Nat × Int) (fun p => (p.1 = 1 ∧ p.2 = ((bat s a.toNat).toNat : Int) - 192) ∨ (p.1 = 2 ∧ 128 ≤ ((bat s (a.toNat + 1)).toNat : Int) ∧ ((bat s (a.toNat + 1)).toNat : Int) < 192 ∧ p.2 = (64 * (((bat s a.toNat).toNat : Int) - 192) + (((bat s (a.toNat + 1)).toNat : Int) - 128)))) (fun p => ⟨[], [(0, .str s), (1, .int .i64 a), (6, .int .i64 2), (7, .int .i64 128), (8, .int .i64 p.2), (9, .int .i64 (p.1 : Int))]⟩) (fun p => σ) (fun p => 2 - p.1) ((1, ((bat s a.toNat).toNat : Int) - 192)) (.inl ⟨rfl, rfl⟩) ?_ rfl (fun p hp => ?_)
     ·exact ⟨rfl, rfl, rfl, rfl, rfl, rfl, rfl, trivial⟩
     obtain ⟨i, v⟩ := p
     simp only at hp ⊢
     have ci := bat_lt s (a + (i : Int)).toNat
     have k1 : i = 1 → (bat s (a + (i : Int)).toNat).toNat = (bat s (a.toNat + 1)).toNat := fun h => by rw [h]; congr 2; omega
     have k2 : i = 2 → (bat s (a + (i : Int)).toNat).toNat = (bat s (a.toNat + 2)).toNat := fun h => by rw [h]; congr 2; omega
     have k3 : i = 3 → (bat s (a + (i : Int)).toNat).toNat = (bat s (a.toNat + 3)).toNat := fun h => by rw [h]; congr 2; omega
     refine AWp_seq ?_
     refine zw3 ?_
     refine AWp_cond rfl (fun h5 => ?_) (fun h5 => ?_)
     ·(try rw [h5]); replace h5 := zcl h5
      refine AWp_skip ?_
      refine AWp_seq ?_
      refine AWp_block ?_
      refine zw7 ?_
      refine AWp_seq ?_
      refine zu3 ?_
      refine zsp 60 rfl (fun h6 => ?_) fun h6 => ?_
      ·rw [h6]; replace h6 := zcl h6
       refine zv3 ?_
       refine AWp_condT rfl ?_
       refine zw1 ?_
       refine zrt ?_
       refine ResQ_10 rfl hcl trivial (Ret_of ?_)
       congr 1
       unfold u8
       first | rw [u8N_1 (by omega)] | rw [u8N_2 (by omega) (by omega)] | rw [u8N_3 (by omega) (by omega) rfl] | rw [u8N_4 (by omega) (by omega) rfl] | rw [u8N_0 (by omega) (by omega)]
       all_goals (try split) <;> omega
      ·rw [h6]; replace h6 := zcl h6
       refine zv3 ?_
       refine AWp_cond rfl (fun h7 => ?_) (fun h7 => ?_)
       ·(try rw [h7]); replace h7 := zcl h7
        refine zw1 ?_
        refine zrt ?_
        refine ResQ_10 rfl hcl trivial (Ret_of ?_)
        congr 1
        unfold u8
        first | rw [u8N_1 (by omega)] | rw [u8N_2 (by omega) (by omega)] | rw [u8N_3 (by omega) (by omega) rfl] | rw [u8N_4 (by omega) (by omega) rfl] | rw [u8N_0 (by omega) (by omega)]
        all_goals (try split) <;> omega
       ·(try rw [h7]); replace h7 := zcl h7
        refine AWp_skip ?_
        refine AWp_regL ?_
        refine zv6 ?_
        refine AWp_regL ?_
        refine zv3 ?_
        refine ⟨(i + 1, _), σ.length, ?_, ?_, Nat.le_refl _, ⟨rfl, rfl, rfl, rfl, rfl, rfl, rfl, trivial⟩, hcl, ?_, List.take_length⟩
        ·simp only; omega
        ·simp only; omega
        ·simp [ltE, AV.lt]
     ·(try rw [h5]); replace h5 := zcl h5
      refine AWp_exit ?_
      refine AWp_seq ?_
      refine zu4 ?_
      refine zsp 72 rfl (fun h8 => ?_) fun h8 => ?_
      ·rw [h8]; replace h8 := zcl h8
       refine zg10 ?_
       refine zg1 ?_
       refine zon ?_
       refine AWp_condT rfl ?_
       refine zw1 ?_
       refine zrt ?_
       refine ResQ_10 rfl hcl trivial (Ret_of ?_)
       congr 1
       unfold u8
       first | rw [u8N_1 (by omega)] | rw [u8N_2 (by omega) (by omega)] | rw [u8N_3 (by omega) (by omega) rfl] | rw [u8N_4 (by omega) (by omega) rfl] | rw [u8N_0 (by omega) (by omega)]
       all_goals (try split) <;> omega
      ·rw [h8]; replace h8 := zcl h8
       refine zg4 ?_
       refine zsp 76 rfl (fun h9 => ?_) fun h9 => ?_
       ·rw [h9]; replace h9 := zcl h9
        refine zv7 ?_
        refine AWp_condT rfl ?_
        refine zw1 ?_
        refine zrt ?_
        refine ResQ_10 rfl hcl trivial (Ret_of ?_)
        congr 1
        unfold u8
        first | rw [u8N_1 (by omega)] | rw [u8N_2 (by omega) (by omega)] | rw [u8N_3 (by omega) (by omega) rfl] | rw [u8N_4 (by omega) (by omega) rfl] | rw [u8N_0 (by omega) (by omega)]
        all_goals (try split) <;> omega
       ·rw [h9]; replace h9 := zcl h9
        refine zg3 ?_
        refine zsp 79 rfl (fun h10 => ?_) fun h10 => ?_
        ·rw [h10]; replace h10 := zcl h10
         refine zv4 ?_
         refine AWp_cond rfl (fun h11 => ?_) (fun h11 => ?_)
         ·(try rw [h11]); replace h11 := zcl h11
          refine zw1 ?_
          refine zrt ?_
          refine ResQ_10 rfl hcl trivial (Ret_of ?_)
          congr 1
          unfold u8
          first | rw [u8N_1 (by omega)] | rw [u8N_2 (by omega) (by omega)] | rw [u8N_3 (by omega) (by omega) rfl] | rw [u8N_4 (by omega) (by omega) rfl] | rw [u8N_0 (by omega) (by omega)]
          all_goals (try split) <;> omega
         ·(try rw [h11]); replace h11 := zcl h11
          refine AWp_skip ?_
          refine zw2 ?_
          refine zrt ?_
          refine ResQ_10 rfl hcl trivial (Ret_of ?_)
          congr 1
          unfold u8
          first | rw [u8N_1 (by omega)] | rw [u8N_2 (by omega) (by omega)] | rw [u8N_3 (by omega) (by omega) rfl] | rw [u8N_4 (by omega) (by omega) rfl] | rw [u8N_0 (by omega) (by omega)]
          all_goals (try split) <;> omega
        ·rw [h10]; replace h10 := zcl h10
         refine zv4 ?_
         refine AWp_condF rfl ?_
         refine AWp_skip ?_
         refine zw2 ?_
         refine zrt ?_
         refine ResQ_10 rfl hcl trivial (Ret_of ?_)
         congr 1
         unfold u8
         first | rw [u8N_1 (by omega)] | rw [u8N_2 (by omega) (by omega)] | rw [u8N_3 (by omega) (by omega) rfl] | rw [u8N_4 (by omega) (by omega) rfl] | rw [u8N_0 (by omega) (by omega)]
         all_goals (try split) <;> omega
   ·(try rw [h3]); replace h3 := zcl h3
    refine zu3 ?_
    refine zsp 27 rfl (fun h12 => ?_) fun h12 => ?_
    ·rw [h12]; replace h12 := zcl h12
     refine zv3 ?_
     refine AWp_cond rfl (fun h13 => ?_) (fun h13 => ?_)
     ·(try rw [h13]); replace h13 := zcl h13
      refine zw1 ?_
      refine zw1 ?_
      refine AWp_regL ?_
      refine zv3 ?_
      refine AWp_seq ?_
      refine zw6 ?_
      refine AWp_cond rfl (fun h14 => ?_) (fun h14 => ?_)
      ·(try rw [h14]); replace h14 := zcl h14
       refine zw1 ?_
       refine zrt ?_
       refine ResQ_10 rfl hcl trivial (Ret_of ?_)
       congr 1
       unfold u8
       first | rw [u8N_1 (by omega)] | rw [u8N_2 (by omega) (by omega)] | rw [u8N_3 (by omega) (by omega) rfl] | rw [u8N_4 (by omega) (by omega) rfl] | rw [u8N_0 (by omega) (by omega)]
       all_goals (try split) <;> omega
      ·(try rw [h14]); replace h14 := zcl h14
       refine AWp_skip ?_
       refine AWp_seq ?_
       refine zw1 ?_
       refine AWp_block ?_
       -- loop 1 LIVE 0:param 1:param 4:assign 6:assign 7:assign 8:assign 9:assign
       refine AWp_loop (ι := Nat × Int) (fun p => (p.1 = 1 ∧ p.2 = ((bat s a.toNat).toNat : Int) - 224) ∨ (p.1 = 2 ∧ 128 ≤ ((bat s (a.toNat + 1)).toNat : Int) ∧ ((bat s (a.toNat + 1)).toNat : Int) < 192 ∧ p.2 = (64 * (((bat s a.toNat).toNat : Int) - 224) + (((bat s (a.toNat + 1)).toNat : Int) - 128))) ∨ (p.1 = 3 ∧ 128 ≤ ((bat s (a.toNat + 1)).toNat : Int) ∧ ((bat s (a.toNat + 1)).toNat : Int) < 192 ∧ 128 ≤ ((bat s (a.toNat + 2)).toNat : Int) ∧ ((bat s (a.toNat + 2)).toNat : Int) < 192 ∧ p.2 = (64 * (64 * (((bat s a.toNat).toNat : Int) - 224) + (((bat s (a.toNat + 1)).toNat : Int) - 128)) + (((bat s (a.toNat + 2)).toNat : Int) - 128)))) (fun p => ⟨[], [(0, .str s), (1, .int .i64 a), (6, .int .i64 3), (7, .int .i64 2048), (8, .int .i64 p.2), (9, .int .i64 (p.1 : Int))]⟩) (fun p => σ) (fun p => 3 - p.1) ((1, ((bat s a.toNat).toNat : Int) - 224)) (.inl ⟨rfl, rfl⟩) ?_ rfl (fun p hp => ?_)
       ·exact ⟨rfl, rfl, rfl, rfl, rfl, rfl, rfl, trivial⟩
       obtain ⟨i, v⟩ := p
       simp only at hp ⊢
       have ci := bat_lt s (a + (i : Int)).toNat
       have k1 : i = 1 → (bat s (a + (i : Int)).toNat).toNat = (bat s (a.toNat + 1)).toNat := fun h => by rw [h]; congr 2; omega
       have k2 : i = 2 → (bat s (a + (i : Int)).toNat).toNat = (bat s (a.toNat + 2)).toNat := fun h => by rw [h]; congr 2; omega
       have k3 : i = 3 → (bat s (a + (i : Int)).toNat).toNat = (bat s (a.toNat + 3)).toNat := fun h => by rw [h]; congr 2; omega
       refine AWp_seq ?_
       refine zw3 ?_
       refine AWp_cond rfl (fun h15 => ?_) (fun h15 => ?_)
       ·(try rw [h15]); replace h15 := zcl h15
        refine AWp_skip ?_
        refine AWp_seq ?_
        refine AWp_block ?_
        refine zw7 ?_
        refine AWp_seq ?_
        refine zu3 ?_
        refine zsp 60 rfl (fun h16 => ?_) fun h16 => ?_
        ·rw [h16]; replace h16 := zcl h16
         refine zv3 ?_
         refine AWp_condT rfl ?_
         refine zw1 ?_
         refine zrt ?_
         refine ResQ_10 rfl hcl trivial (Ret_of ?_)
         congr 1
         unfold u8
         first | rw [u8N_1 (by omega)] | rw [u8N_2 (by omega) (by omega)] | rw [u8N_3 (by omega) (by omega) rfl] | rw [u8N_4 (by omega) (by omega) rfl] | rw [u8N_0 (by omega) (by omega)]
         all_goals (try split) <;> omega
        ·rw [h16]; replace h16 := zcl h16
         refine zv3 ?_
         refine AWp_cond rfl (fun h17 => ?_) (fun h17 => ?_)
         ·(try rw [h17]); replace h17 := zcl h17
          refine zw1 ?_
          refine zrt ?_
          refine ResQ_10 rfl hcl trivial (Ret_of ?_)
          congr 1
          unfold u8
          first | rw [u8N_1 (by omega)] | rw [u8N_2 (by omega) (by omega)] | rw [u8N_3 (by omega) (by omega) rfl] | rw [u8N_4 (by omega) (by omega) rfl] | rw [u8N_0 (by omega) (by omega)]
          all_goals (try split) <;> omega
         ·(try rw [h17]); replace h17 := zcl h17
          refine AWp_skip ?_
          refine AWp_regL ?_
          refine zv6 ?_
          refine AWp_regL ?_
          refine zv3 ?_
          refine ⟨(i + 1, _), σ.length, ?_, ?_, Nat.le_refl _, ⟨rfl, rfl, rfl, rfl, rfl, rfl, rfl, trivial⟩, hcl, ?_, List.take_length⟩
          ·simp only; omega
          ·simp only; omega
          ·simp [ltE, AV.lt]
       ·(try rw [h15]); replace h15 := zcl h15
        refine AWp_exit ?_
        refine AWp_seq ?_
        refine zu4 ?_
        refine zsp 72 rfl (fun h18 => ?_) fun h18 => ?_
        ·rw [h18]; replace h18 := zcl h18
         refine zg10 ?_
         refine zg1 ?_
         refine zon ?_
         refine AWp_condT rfl ?_
         refine zw1 ?_
         refine zrt ?_
         refine ResQ_10 rfl hcl trivial (Ret_of ?_)
         congr 1
         unfold u8
         first | rw [u8N_1 (by omega)] | rw [u8N_2 (by omega) (by omega)] | rw [u8N_3 (by omega) (by omega) rfl] | rw [u8N_4 (by omega) (by omega) rfl] | rw [u8N_0 (by omega) (by omega)]
         all_goals (try split) <;> omega
        ·rw [h18]; replace h18 := zcl h18
         refine zg4 ?_
         refine zsp 76 rfl (fun h19 => ?_) fun h19 => ?_
         ·rw [h19]; replace h19 := zcl h19
          refine zv7 ?_
          refine AWp_condT rfl ?_
          refine zw1 ?_
          refine zrt ?_
          refine ResQ_10 rfl hcl trivial (Ret_of ?_)
          congr 1
          unfold u8
          first | rw [u8N_1 (by omega)] | rw [u8N_2 (by omega) (by omega)] | rw [u8N_3 (by omega) (by omega) rfl] | rw [u8N_4 (by omega) (by omega) rfl] | rw [u8N_0 (by omega) (by omega)]
          all_goals (try split) <;> omega
         ·rw [h19]; replace h19 := zcl h19
          refine zg3 ?_
          refine zsp 79 rfl (fun h20 => ?_) fun h20 => ?_
          ·rw [h20]; replace h20 := zcl h20
           refine zv4 ?_
           refine AWp_cond rfl (fun h21 => ?_) (fun h21 => ?_)
           ·(try rw [h21]); replace h21 := zcl h21
            refine zw1 ?_
            refine zrt ?_
            refine ResQ_10 rfl hcl trivial (Ret_of ?_)
            congr 1
            unfold u8
            first | rw [u8N_1 (by omega)] | rw [u8N_2 (by omega) (by omega)] | rw [u8N_3 (by omega) (by omega) rfl] | rw [u8N_4 (by omega) (by omega) rfl] | rw [u8N_0 (by omega) (by omega)]
            all_goals (try split) <;> omega
           ·(try rw [h21]); replace h21 := zcl h21
            refine AWp_skip ?_
            refine zw2 ?_
            refine zrt ?_
            refine ResQ_10 rfl hcl trivial (Ret_of ?_)
            congr 1
            unfold u8
            first | rw [u8N_1 (by omega)] | rw [u8N_2 (by omega) (by omega)] | rw [u8N_3 (by omega) (by omega) rfl] | rw [u8N_4 (by omega) (by omega) rfl] | rw [u8N_0 (by omega) (by omega)]
            all_goals (try split) <;> omega
          ·rw [h20]; replace h20 := zcl h20
           refine zv4 ?_
           refine AWp_condF rfl ?_
           refine AWp_skip ?_
           refine zw2 ?_
           refine zrt ?_
           refine ResQ_10 rfl hcl trivial (Ret_of ?_)
           congr 1
           unfold u8
           first | rw [u8N_1 (by omega)] | rw [u8N_2 (by omega) (by omega)] | rw [u8N_3 (by omega) (by omega) rfl] | rw [u8N_4 (by omega) (by omega) rfl] | rw [u8N_0 (by omega) (by omega)]
           all_goals (try split) <;> omega
     ·(try rw [h13]); replace h13 := zcl h13
      refine zu3 ?_
      refine zsp 35 rfl (fun h22 => ?_) fun h22 => ?_
      ·rw [h22]; replace h22 := zcl h22
       refine zv3 ?_
       refine AWp_cond rfl (fun h23 => ?_) (fun h23 => ?_)
       ·(try rw [h23]); replace h23 := zcl h23
        refine zw1 ?_
        refine zw1 ?_
        refine AWp_regL ?_
        refine zv3 ?_
        refine AWp_seq ?_
        refine zw6 ?_
        refine AWp_cond rfl (fun h24 => ?_) (fun h24 => ?_)
        ·(try rw [h24]); replace h24 := zcl h24
         refine zw1 ?_
         refine zrt ?_
         refine ResQ_10 rfl hcl trivial (Ret_of ?_)
         congr 1
         unfold u8
         first | rw [u8N_1 (by omega)] | rw [u8N_2 (by omega) (by omega)] | rw [u8N_3 (by omega) (by omega) rfl] | rw [u8N_4 (by omega) (by omega) rfl] | rw [u8N_0 (by omega) (by omega)]
         all_goals (try split) <;> omega
        ·(try rw [h24]); replace h24 := zcl h24
         refine AWp_skip ?_
         refine AWp_seq ?_
         refine zw1 ?_
         refine AWp_block ?_
         -- loop 2 LIVE 0:param 1:param 4:assign 6:assign 7:assign 8:assign 9:assign
         refine AWp_loop (ι := Nat × Int) (fun p => (p.1 = 1 ∧ p.2 = ((bat s a.toNat).toNat : Int) - 240) ∨ (p.1 = 2 ∧ 128 ≤ ((bat s (a.toNat + 1)).toNat : Int) ∧ ((bat s (a.toNat + 1)).toNat : Int) < 192 ∧ p.2 = (64 * (((bat s a.toNat).toNat : Int) - 240) + (((bat s (a.toNat + 1)).toNat : Int) - 128))) ∨ (p.1 = 3 ∧ 128 ≤ ((bat s (a.toNat + 1)).toNat : Int) ∧ ((bat s (a.toNat + 1)).toNat : Int) < 192 ∧ 128 ≤ ((bat s (a.toNat + 2)).toNat : Int) ∧ ((bat s (a.toNat + 2)).toNat : Int) < 192 ∧ p.2 = (64 * (64 * (((bat s a.toNat).toNat : Int) - 240) + (((bat s (a.toNat + 1)).toNat : Int) - 128)) + (((bat s (a.toNat + 2)).toNat : Int) - 128))) ∨ (p.1 = 4 ∧ 128 ≤ ((bat s (a.toNat + 1)).toNat : Int) ∧ ((bat s (a.toNat + 1)).toNat : Int) < 192 ∧ 128 ≤ ((bat s (a.toNat + 2)).toNat : Int) ∧ ((bat s (a.toNat + 2)).toNat : Int) < 192 ∧ 128 ≤ ((bat s (a.toNat + 3)).toNat : Int) ∧ ((bat s (a.toNat + 3)).toNat : Int) < 192 ∧ p.2 = (64 * (64 * (64 * (((bat s a.toNat).toNat : Int) - 240) + (((bat s (a.toNat + 1)).toNat : Int) - 128)) + (((bat s (a.toNat + 2)).toNat : Int) - 128)) + (((bat s (a.toNat + 3)).toNat : Int) - 128)))) (fun p => ⟨[], [(0, .str s), (1, .int .i64 a), (6, .int .i64 4), (7, .int .i64 65536), (8, .int .i64 p.2), (9, .int .i64 (p.1 : Int))]⟩) (fun p => σ) (fun p => 4 - p.1) ((1, ((bat s a.toNat).toNat : Int) - 240)) (.inl ⟨rfl, rfl⟩) ?_ rfl (fun p hp => ?_)
         ·exact ⟨rfl, rfl, rfl, rfl, rfl, rfl, rfl, trivial⟩
         obtain ⟨i, v⟩ := p
         simp only at hp ⊢
         have ci := bat_lt s (a + (i : Int)).toNat
         have k1 : i = 1 → (bat s (a + (i : Int)).toNat).toNat = (bat s (a.toNat + 1)).toNat := fun h => by rw [h]; congr 2; omega
         have k2 : i = 2 → (bat s (a + (i : Int)).toNat).toNat = (bat s (a.toNat + 2)).toNat := fun h => by rw [h]; congr 2; omega
         have k3 : i = 3 → (bat s (a + (i : Int)).toNat).toNat = (bat s (a.toNat + 3)).toNat := fun h => by rw [h]; congr 2; omega
         refine AWp_seq ?_
         refine zw3 ?_
         refine AWp_cond rfl (fun h25 => ?_) (fun h25 => ?_)
         ·(try rw [h25]); replace h25 := zcl h25
          refine AWp_skip ?_
          refine AWp_seq ?_
          refine AWp_block ?_
          refine zw7 ?_
          refine AWp_seq ?_
          refine zu3 ?_
          refine zsp 60 rfl (fun h26 => ?_) fun h26 => ?_
          ·rw [h26]; replace h26 := zcl h26
           refine zv3 ?_
           refine AWp_condT rfl ?_
           refine zw1 ?_
           refine zrt ?_
           refine ResQ_10 rfl hcl trivial (Ret_of ?_)
           congr 1
           unfold u8
           first | rw [u8N_1 (by omega)] | rw [u8N_2 (by omega) (by omega)] | rw [u8N_3 (by omega) (by omega) rfl] | rw [u8N_4 (by omega) (by omega) rfl] | rw [u8N_0 (by omega) (by omega)]
           all_goals (try split) <;> omega
          ·rw [h26]; replace h26 := zcl h26
           refine zv3 ?_
           refine AWp_cond rfl (fun h27 => ?_) (fun h27 => ?_)
           ·(try rw [h27]); replace h27 := zcl h27
            refine zw1 ?_
            refine zrt ?_
            refine ResQ_10 rfl hcl trivial (Ret_of ?_)
            congr 1
            unfold u8
            first | rw [u8N_1 (by omega)] | rw [u8N_2 (by omega) (by omega)] | rw [u8N_3 (by omega) (by omega) rfl] | rw [u8N_4 (by omega) (by omega) rfl] | rw [u8N_0 (by omega) (by omega)]
            all_goals (try split) <;> omega
           ·(try rw [h27]); replace h27 := zcl h27
            refine AWp_skip ?_
            refine AWp_regL ?_
            refine zv6 ?_
            refine AWp_regL ?_
            refine zv3 ?_
            refine ⟨(i + 1, _), σ.length, ?_, ?_, Nat.le_refl _, ⟨rfl, rfl, rfl, rfl, rfl, rfl, rfl, trivial⟩, hcl, ?_, List.take_length⟩
            ·simp only; omega
            ·simp only; omega
            ·simp [ltE, AV.lt]
         ·(try rw [h25]); replace h25 := zcl h25
          refine AWp_exit ?_
          refine AWp_seq ?_
          refine zu4 ?_
          refine zsp 72 rfl (fun h28 => ?_) fun h28 => ?_
          ·rw [h28]; replace h28 := zcl h28
           refine zg10 ?_
           refine zg1 ?_
           refine zon ?_
           refine AWp_condT rfl ?_
           refine zw1 ?_
           refine zrt ?_
           refine ResQ_10 rfl hcl trivial (Ret_of ?_)
           congr 1
           unfold u8
           first | rw [u8N_1 (by omega)] | rw [u8N_2 (by omega) (by omega)] | rw [u8N_3 (by omega) (by omega) rfl] | rw [u8N_4 (by omega) (by omega) rfl] | rw [u8N_0 (by omega) (by omega)]
           all_goals (try split) <;> omega
          ·rw [h28]; replace h28 := zcl h28
           refine zg4 ?_
           refine zsp 76 rfl (fun h29 => ?_) fun h29 => ?_
           ·rw [h29]; replace h29 := zcl h29
            refine zv7 ?_
            refine AWp_condT rfl ?_
            refine zw1 ?_
            refine zrt ?_
            refine ResQ_10 rfl hcl trivial (Ret_of ?_)
            congr 1
            unfold u8
            first | rw [u8N_1 (by omega)] | rw [u8N_2 (by omega) (by omega)] | rw [u8N_3 (by omega) (by omega) rfl] | rw [u8N_4 (by omega) (by omega) rfl] | rw [u8N_0 (by omega) (by omega)]
            all_goals (try split) <;> omega
           ·rw [h29]; replace h29 := zcl h29
            refine zg3 ?_
            refine zsp 79 rfl (fun h30 => ?_) fun h30 => ?_
            ·rw [h30]; replace h30 := zcl h30
             refine zv4 ?_
             refine AWp_cond rfl (fun h31 => ?_) (fun h31 => ?_)
             ·(try rw [h31]); replace h31 := zcl h31
              refine zw1 ?_
              refine zrt ?_
              refine ResQ_10 rfl hcl trivial (Ret_of ?_)
              congr 1
              unfold u8
              first | rw [u8N_1 (by omega)] | rw [u8N_2 (by omega) (by omega)] | rw [u8N_3 (by omega) (by omega) rfl] | rw [u8N_4 (by omega) (by omega) rfl] | rw [u8N_0 (by omega) (by omega)]
              all_goals (try split) <;> omega
             ·(try rw [h31]); replace h31 := zcl h31
              refine AWp_skip ?_
              refine zw2 ?_
              refine zrt ?_
              refine ResQ_10 rfl hcl trivial (Ret_of ?_)
              congr 1
              unfold u8
              first | rw [u8N_1 (by omega)] | rw [u8N_2 (by omega) (by omega)] | rw [u8N_3 (by omega) (by omega) rfl] | rw [u8N_4 (by omega) (by omega) rfl] | rw [u8N_0 (by omega) (by omega)]
              all_goals (try split) <;> omega
            ·rw [h30]; replace h30 := zcl h30
             refine zv4 ?_
             refine AWp_condF rfl ?_
             refine AWp_skip ?_
             refine zw2 ?_
             refine zrt ?_
             refine ResQ_10 rfl hcl trivial (Ret_of ?_)
             congr 1
             unfold u8
             first | rw [u8N_1 (by omega)] | rw [u8N_2 (by omega) (by omega)] | rw [u8N_3 (by omega) (by omega) rfl] | rw [u8N_4 (by omega) (by omega) rfl] | rw [u8N_0 (by omega) (by omega)]
             all_goals (try split) <;> omega
       ·(try rw [h23]); replace h23 := zcl h23
        refine zw1 ?_
        refine zrt ?_
        refine ResQ_10 rfl hcl trivial (Ret_of ?_)
        congr 1
        unfold u8
        first | rw [u8N_1 (by omega)] | rw [u8N_2 (by omega) (by omega)] | rw [u8N_3 (by omega) (by omega) rfl] | rw [u8N_4 (by omega) (by omega) rfl] | rw [u8N_0 (by omega) (by omega)]
        all_goals (try split) <;> omega
      ·rw [h22]; replace h22 := zcl h22
       exfalso; omega
    ·rw [h12]; replace h12 := zcl h12
     exfalso; omega
  ·rw [h2]; replace h2 := zcl h2
   refine zv3 ?_
   refine AWp_condF rfl ?_
   refine zu3 ?_
   refine zsp 27 rfl (fun h32 => ?_) fun h32 => ?_
   ·rw [h32]; replace h32 := zcl h32
    exfalso; omega
   ·rw [h32]; replace h32 := zcl h32
    refine zv3 ?_
    refine AWp_condF rfl ?_
    refine zu3 ?_
    refine zsp 35 rfl (fun h33 => ?_) fun h33 => ?_
    ·rw [h33]; replace h33 := zcl h33
     exfalso; omega
    ·rw [h33]; replace h33 := zcl h33
     refine zv3 ?_
     refine AWp_condF rfl ?_
     refine zw1 ?_
     refine zrt ?_
     refine ResQ_10 rfl hcl trivial (Ret_of ?_)
     congr 1
     unfold u8
     first | rw [u8N_1 (by omega)] | rw [u8N_2 (by omega) (by omega)] | rw [u8N_3 (by omega) (by omega) rfl] | rw [u8N_4 (by omega) (by omega) rfl] | rw [u8N_0 (by omega) (by omega)]
     all_goals (try split) <;> omega

theorem text_c (s : ByteArray) (σ : List AO) (hs : s.size ≤ 140737488355328) : ACalls Tryd.prog 23 [.str s] σ (Ret (.bool (pb (Utf s))) σ) := by
 refine ACalls_body Tryd.func23 rfl Tryd.ntmps23 (res1 Tryd.results23) (Nat.le_of_ble_eq_true rfl) (fun hcl hal => ?_)
 have hU : utfFrom s 0 = Go.Lib.validD s.data.toList := rfl
 refine zw1 ?_
 refine AWp_seq ?_
 refine zw1 ?_
 refine AWp_block ?_
 -- loop 0 LIVE 0:param 2:assign 3:assign
 refine AWp_loop (ι := Nat) (fun i => i ≤ s.size ∧ utfFrom s i = utfFrom s 0) (fun i => ⟨[], [(0, .str s), (3, .int .i64 (i : Int))]⟩) (fun i => σ) (fun i => s.size - i) (0) (⟨Nat.zero_le _, rfl⟩) ?_ rfl (fun i hi => ?_)
 ·exact ⟨rfl, rfl, rfl, trivial⟩
 obtain ⟨hi1, hi2⟩ := hi
 refine AWp_seq ?_
 refine zw4 ?_
 refine AWp_cond rfl (fun h1 => ?_) (fun h1 => ?_)
 ·(try rw [h1]); replace h1 := zcl h1
  have hst := utfFrom_step (s := s) (a := i) (by omega)
  have hle := u8_le (s := s) (a := i) (by omega)
  refine AWp_skip ?_
  refine AWp_block ?_
  refine zu2 ?_
  refine zt rfl (zc rfl (utf8_c s _ _ (by omega) (by omega) (by omega))) ?_
  simp only [Int.toNat_natCast]
  refine zv1 ?_
  refine AWp_seq ?_
  refine zw2 ?_
  refine AWp_cond rfl (fun h2 => ?_) (fun h2 => ?_)
  ·(try rw [h2]); replace h2 := zcl h2
   refine zw1 ?_
   refine zrt ?_
   refine ResQ_10 rfl hcl trivial (Ret_of (bool_f ?_))
   rw [if_pos (by omega)] at hst
   unfold Utf; rw [← hU, ← hi2, hst]; decide
  ·(try rw [h2]); replace h2 := zcl h2
   refine AWp_skip ?_
   refine AWp_regL ?_
   refine zv4 ?_
   have hn : u8 s i ≠ 0 := by omega
   rw [if_neg hn] at hst
   refine ⟨i + u8 s i, σ.length, ⟨u8_le (by omega), by rw [← hi2, hst]⟩, by omega, Nat.le_refl _, ⟨rfl, rfl, ?_, trivial⟩, hcl, ?_, List.take_length⟩
   ·rw [Int.natCast_add]; rfl
   ·simp [ltE, AV.lt]
 ·(try rw [h1]); replace h1 := zcl h1
  have hend := utfFrom_end (s := s) (a := i) (by omega)
  refine AWp_exit ?_
  refine zw1 ?_
  refine zrt ?_
  exact ResQ_10 rfl hcl trivial (Ret_of (bool_t (by unfold Utf; rw [← hU, ← hi2, hend])))
end Lg
