/- A part of the proof of Whatever text is handed in: the nodes that the program compiles of its value as a schema are the document's, and what is amiss is told with the document's number and pointer.: C1 Sh5 P1 Sh4 K7 As9 As10 Lt4 Lg61 E2 E3 Lc13 E4 C2 C3 C4 W5. -/
import Derived.Test.YtpcjccmmeaaeaaaGreatDoorS6
import Derived.Test.YtpcjccmmeaaeaaaGreatDoorS5
import Derived.Test.YtpcjccmmeaaeaaaGreatDoorS4
import Derived.Test.YtpcjccmmeaaeaaaGreatDoorS3
import Derived.Shelf.Strings.Replace
import Derived.Shelf.Strings.Split
import Derived.Shelf.Strings.Shaped
import Derived.Test.YtpcjccmmeaaeaaaGreatDoorProg
import Derived.Shelf.Strconv.Itoa3
import Derived.WalkKit
import Derived.LaidEql
import Derived.Stop.Asserts
import Derived.RowKitTokens
set_option linter.unusedVariables false
set_option linter.unusedSimpArgs false
set_option linter.unusedSectionVars false
set_option maxRecDepth 20000
set_option maxHeartbeats 4000000
namespace Lg
open Go Go.Proofs Go.RowKit
variable [GLay] 
theorem drop_consN {α : Type} {l : List α} {i : Nat} {x : α} (h : l[i]? = some x) : l.drop i = x :: l.drop (i + 1) := by
  have hi := (List.getElem?_eq_some_iff.1 h).1
  rw [List.drop_eq_getElem_cons hi]; congr 1
  have := List.getElem?_eq_getElem hi
  rw [h] at this; exact (Option.some.inj this).symm
theorem rpath1_c (nm : ByteArray) (σ : List AO) (h : nm.size ≤ 1000000) : ACalls Tryz.prog 65 [.sl true 1 [[.str nm]]] σ (Ret (.str (pth nm)) σ) := by
  have hz : nm.data.toList.length = nm.size := Array.length_toList ..
  have h1 := rpath_c true [nm.data.toList] σ (by show 1 ≤ 2000000; decide) (by intro x hx; rw [List.mem_singleton.1 hx]; omega)
  rw [show srow [nm.data.toList] = [[.str nm]] by simp [srow, ← ba_eta]] at h1
  exact h1
theorem call_suf {P : Program} {f : FuncId} {args : List AV} {σ ρ : List AO} {a b a' b' : AO} {v : AV} (h : ACalls P f args (σ ++ [a, b]) (Ret v (σ ++ [a', b']))) (hc0 : closed σ.length σ) (ha : AV.ltL (σ.length + 2) a.cells) (hb : AV.ltL (σ.length + 2) b.cells) (hx : AV.ltL (σ.length + 2) args) : ACalls P f args (σ ++ (a :: b :: ρ)) (Ret v (σ ++ (a' :: b' :: ρ))) := by
  have e : (σ ++ [a, b]).length = σ.length + 2 := by simp
  have h1 := ACalls_suf (ρ := ρ) h (by rw [e]; exact closed_own 2 hc0 (by simp [ownLt]; exact ⟨ha, hb⟩)) (by rw [e]; exact hx) (by simp)
  simpa using h1
theorem node_s (n : Nat) (ih : ∀ (v : JV) (path : ByteArray) (m : MS) (σ : List AO), closed σ.length σ → jsize v ≤ n → jb v → path.size + 4000010 * (jsize v).toNat ≤ 100000000000 → m.l.length ≤ 200 → ACalls Tryz.prog 39 [.ptr (σ.length + 0) 0, .str path, .agg (vcells v)] (σ ++ [.box [.arr (σ.length + 1) m.l.length 4 0 m.l.length, .int .i64 m.bad, .str m.path], .arr 4 m.l.length (noder m.l).flatten]) (Ret (.tup []) (σ ++ [.box [.arr (σ.length + 1) (rnd n path v m).l.length 4 0 (rnd n path v m).l.length, .int .i64 (rnd n path v m).bad, .str (rnd n path v m).path], .arr 4 (rnd n path v m).l.length (noder (rnd n path v m).l).flatten]))) (v : JV) (path : ByteArray) (m : MS) (σ : List AO) (hc0 : closed σ.length σ) (hn : jsize v ≤ n + 1) (hjb : jb v) (hps : path.size + 4000010 * (jsize v).toNat ≤ 100000000000) (hml : m.l.length ≤ 200) : ACalls Tryz.prog 39 [.ptr (σ.length + 0) 0, .str path, .agg (vcells v)] (σ ++ [.box [.arr (σ.length + 1) m.l.length 4 0 m.l.length, .int .i64 m.bad, .str m.path], .arr 4 m.l.length (noder m.l).flatten]) (Ret (.tup []) (σ ++ [.box [.arr (σ.length + 1) (rnd (n + 1) path v m).l.length 4 0 (rnd (n + 1) path v m).l.length, .int .i64 (rnd (n + 1) path v m).bad, .str (rnd (n + 1) path v m).path], .arr 4 (rnd (n + 1) path v m).l.length (noder (rnd (n + 1) path v m).l).flatten])) := by
 refine ACalls_body Tryz.func39 rfl Tryz.ntmps39 (res0 Tryz.results39) (Nat.le_of_ble_eq_true rfl) (fun hcl hal => ?_)
 rw [vcells_eq v]
 obtain ⟨hb1, hb2, hb3, hb4, hb5, hb6⟩ := (jb_eq v).1 hjb
 have hvs := jsize_eq v
 have hv1 := jsize_pos v
 have hl0 := lsize_nn v.l
 have hmn := mcells_length v.m
 have hnl := noder_len m.l
 have hnf := nflat_len m.l
 refine zw1 ?_
 refine AWp_seq ?_
 refine zw5 ?_
 refine AWp_cond rfl (fun h1 => ?_) (fun h1 => ?_)
 ·(try rw [h1]); replace h1 := zcl h1
  refine zrt ?_
  refine ResQ_KR (σ.length + 2) (by simp) (closed_own 2 hc0 ?_) ⟨rfl, ?_⟩
  ·simp [ownLt, AO.cells, AV.ltL, AV.lt]
  ·rw [rnd_b h1]; exact take_own 2
 ·(try rw [h1]); replace h1 := zcl h1
  refine AWp_skip ?_
  refine zu4 ?_
  refine zt rfl (op_lenS rfl rfl Tryz.underlying31 rfl rfl ⟨_, _, (get_own 1).trans rfl⟩) ?_
  refine zv1 ?_
  refine AWp_seq ?_
  refine zw2 ?_
  refine AWp_cond rfl (fun h2 => ?_) (fun h2 => ?_)
  ·(try rw [h2]); replace h2 := zcl h2
   refine zw4 ?_
   refine zw5 ?_
   refine zrt ?_
   refine ResQ_KR (σ.length + 2) (by simp) (closed_own 2 hc0 ?_) ⟨rfl, ?_⟩
   ·simp [ownLt, AO.cells, AV.ltL, AV.lt]
   ·rw [rnd_m h1 (by omega)]; exact take_own 2
  ·(try rw [h2]); replace h2 := zcl h2
   have h2 : ¬ m.l.length = 200 := by omega
   refine AWp_skip ?_
   refine AWp_seq ?_
   refine AWp_drawL #[0, 0, 2, 6, 14, 0, 0, 64, 192, 0, 512, 2016, 4064, 8190, 16383, 32767, 65535] Tryz.mixed (by decide +kernel) (by decide +kernel) ?_
   refine zd4 ?_
   refine zp1 ?_
   refine zd2 ?_
   refine zp1 ?_
   refine zd2 ?_
   refine zp1 ?_
   refine zd1 ?_
   refine yA rfl rfl (fun _ => op_buildSlice [[_, _, _, _]] rfl Tryz.underlying31 Tryz.sizeOf47 Tryz.zeroValue47 rfl (by decide) (by decide) rfl rfl rfl rfl rfl) ?_
   refine yE rfl rfl (op_appendArrT rfl 1 (sz := 4) (m := 1) (len := m.l.length) (cs := _) rfl (.inr ⟨_, rfl⟩) Tryz.underlying31 Tryz.underlying31 Tryz.type47 rfl rfl rfl (by decide) rfl rfl hnf.symm rfl rfl rfl (by show (m.l.length + 1) * 48 ≤ _; omega) (by omega) rfl) (⟨.inl rfl, ⟨.inl rfl, ⟨.inl rfl, trivial⟩⟩⟩) (trivial) ?_
   refine zd2 ?_
   refine yEN rfl rfl rfl (op_storeO (r := [.arr (σ.length + 1) (m.l.length + 1) 4 0 (m.l.length + 1), .int .i64 m.bad, .str m.path]) rfl Tryz.sizeOf31 rfl rfl rfl rfl rfl (by decide)) (⟨.inl rfl, ⟨.inl rfl, ⟨.inl rfl, trivial⟩⟩⟩) (⟨rfl, trivial⟩) ?_
   refine RP.nil rfl ?_
   refine zw1 ?_
   refine AWp_seq ?_
   refine zw1 ?_
   refine AWp_block ?_
   -- loop 0 LIVE 0:param 1:param 5:box 6:assign 7:assign 8:assign
   have hm1 : (m1 m path v).l.length = m.l.length + 1 := by simp [m1]
   refine AWp_arrLeO 1 (bs' := (noder (m1 m path v).l).flatten) rfl (by simp) (by show AVleL _ (noder (m.l ++ [_])).flatten; rw [noder_snoc]; exact AVleL.append (AVleL.refl _) ⟨AVle.refl _, AVle.refl _, AVle.refl _, AVle.nils false 10, trivial⟩) ?_
   refine AWp_ghostTO 7 10 3 rfl rfl ?_ (by decide)
   refine AWp_heap (σ' := σ ++ [.box [.arr (σ.length + 1) (m1 m path v).l.length 4 0 (m1 m path v).l.length, .int .i64 (m1 m path v).bad, .str (m1 m path v).path], .arr 4 (m1 m path v).l.length (noder (m1 m path v).l).flatten, .box [.int .i64 v.kind, .bool v.b, .bool v.n.neg, .str v.n.digits, .int .i64 v.n.exp, .str v.s, .sl false 8 (lcells v.l), .sl false 9 (mcells v.m)], .arr 10 ([] : List JKey).length (keyr ([] : List JKey)).flatten]) (by rw [hm1]; rfl) ?_
   refine AWp_loop (ι := Nat × List JKey × MS) (fun z => z.1 ≤ v.m.length ∧ rmems (rnd n) path (v.m.drop z.1) z.2.1 z.2.2 = rmems (rnd n) path v.m [] (m1 m path v) ∧ m.l.length < z.2.2.l.length ∧ z.2.2.l.length ≤ 200 ∧ z.2.1.length ≤ z.1) (fun z => ⟨[], [(0, .ptr (σ.length + 0) 0), (1, .str path), (5, .ptr (σ.length + 2) 0), (6, .int .i64 (m.l.length : Int)), (7, .arr (σ.length + 3) z.2.1.length 10 0 z.2.1.length), (8, .int .i64 (z.1 : Int))]⟩) (fun z => σ ++ [.box [.arr (σ.length + 1) z.2.2.l.length 4 0 z.2.2.l.length, .int .i64 z.2.2.bad, .str z.2.2.path], .arr 4 z.2.2.l.length (noder z.2.2.l).flatten, .box [.int .i64 v.kind, .bool v.b, .bool v.n.neg, .str v.n.digits, .int .i64 v.n.exp, .str v.s, .sl false 8 (lcells v.l), .sl false 9 (mcells v.m)], .arr 10 z.2.1.length (keyr z.2.1).flatten]) (fun z => v.m.length - z.1) ((0, [], m1 m path v)) (⟨Nat.zero_le _, by rw [List.drop_zero], by simp only; omega, by simp only; omega, Nat.le_refl _⟩) ?_ rfl (fun z hz => ?_)
   ·exact ⟨rfl, rfl, rfl, rfl, rfl, rfl, rfl, trivial⟩
   obtain ⟨i, ks, u⟩ := z
   obtain ⟨hi1, hi2, hi3, hi4, hi5⟩ := hz
   simp only at hi1 hi2 hi3 hi4 hi5 ⊢
   refine AWp_seq ?_
   refine zu6 ?_
   refine zsp 57 rfl (fun h3 => ?_) fun h3 => ?_
   ·rw [h3]; replace h3 := zcl h3
    refine zv6 ?_
    refine AWp_cond rfl (fun h4 => ?_) (fun h4 => ?_)
    ·(try rw [h4]); replace h4 := zcl h4
     obtain ⟨q, hq⟩ : ∃ q, v.m[i]? = some q := ⟨_, List.getElem?_eq_getElem (show i < v.m.length by omega)⟩
     rw [drop_consN hq] at hi2
     have hqb := mb_get hb6 hq
     have hqj := (jb_eq q.2).1 hqb.2
     have hxs := msize_mem hq
     have hq1 := jsize_pos q.2
     have hpz := pth_size q.1
     have hyf := yflat_len ks
     refine AWp_skip ?_
     refine AWp_seq ?_
     refine AWp_block ?_
     refine zw7 ?_
     refine zu2 ?_
     refine zt rfl (op_buildSlice [[_]] rfl Tryz.underlying48 Tryz.sizeOf9 Tryz.zeroValue9 rfl (by decide) (by decide) rfl rfl rfl rfl rfl) ?_
     refine zt rfl (zc rfl (rpath1_c q.1 _ hqb.1)) ?_
     refine zv2 ?_
     refine zu6 ?_
     rw [vcells_eq q.2]
     refine zg1 ?_
     refine zt rfl (zc rfl (vcells_eq q.2 ▸ rshape_c q.1 q.2 _ (by omega) (by omega))) ?_
     refine zv1 ?_
     refine AWp_seq ?_
     refine zw2 ?_
     refine AWp_cond rfl (fun h5 => ?_) (fun h5 => ?_)
     ·(try rw [h5]); replace h5 := zcl h5
      refine zw5 ?_
      refine zw5 ?_
      refine zrt ?_
      have hfin := hi2.symm.trans (rmems_sq h4 h5)
      refine ResQ_KR (σ.length + 2) (by simp) (closed_own 2 hc0 ?_) ⟨rfl, ?_⟩
      ·simp [ownLt, AO.cells, AV.ltL, AV.lt]
      ·rw [rnd_t h1 h2 hfin]; exact take_own 2
     ·(try rw [h5]); replace h5 := zcl h5
      have hkl := kids_len (n := q.1) hqb.2
      have hmk := mcells_length (kidsM q.1 q.2)
      have hpu : (path ++ pth q.1).size = path.size + (pth q.1).size := ByteArray.size_append ..
      refine AWp_skip ?_
      refine zu6 ?_
      rw [vcells_eq q.2]
      refine zv4 ?_
      refine zu6 ?_
      rw [vcells_eq q.2]
      refine zg1 ?_
      refine zt rfl (zc rfl (vcells_eq q.2 ▸ rkids_c q.1 q.2 _ (by omega))) ?_
      refine zv1 ?_
      refine zu1 ?_
      refine zt rfl (zc rfl (rsingle_c q.1 _)) ?_
      refine zv1 ?_
      refine AWp_seq ?_
      refine AWp_seq ?_
      refine AWp_ghostInO 4 9 2 5 rfl rfl rfl ?_
      refine AWp_regL ?_
      refine zv1 ?_
      refine AWp_block ?_
      -- loop 1 LIVE 0:param 6:assign 7:assign 8:assign 10:assign 12:alloc 13:assign 14:assign 15:assign
      refine AWp_loop (ι := Nat × List JKid × MS) (fun y => y.1 ≤ (kidsM q.1 q.2).length ∧ (y.2.1 ++ (rkids (rnd n) (path ++ pth q.1) (decide (rk q.1 = 8)) ((kidsM q.1 q.2).drop y.1) y.2.2).1, (rkids (rnd n) (path ++ pth q.1) (decide (rk q.1 = 8)) ((kidsM q.1 q.2).drop y.1) y.2.2).2) = rkids (rnd n) (path ++ pth q.1) (decide (rk q.1 = 8)) (kidsM q.1 q.2) u ∧ u.l.length ≤ y.2.2.l.length ∧ y.2.2.l.length ≤ 200 ∧ y.2.1.length = y.1) (fun y => ⟨[], [(0, .ptr (σ.length + 0) 0), (1, .str path), (5, .ptr (σ.length + 2) 0), (6, .int .i64 (m.l.length : Int)), (7, .arr (σ.length + 3) ks.length 10 0 ks.length), (8, .int .i64 (i : Int)), (9, .str q.1), (10, .str (path ++ pth q.1)), (12, .ptr (σ.length + 4) 0), (13, .sl false 9 (mcells (kidsM q.1 q.2))), (14, .bool (decide (rk q.1 = 8))), (15, .int .i64 (y.1 : Int))]⟩) (fun y => σ ++ [.box [.arr (σ.length + 1) y.2.2.l.length 4 0 y.2.2.l.length, .int .i64 y.2.2.bad, .str y.2.2.path], .arr 4 y.2.2.l.length (noder y.2.2.l).flatten, .box [.int .i64 v.kind, .bool v.b, .bool v.n.neg, .str v.n.digits, .int .i64 v.n.exp, .str v.s, .sl false 8 (lcells v.l), .sl false 9 (mcells v.m)], .arr 10 ks.length (keyr ks).flatten, .box [.str q.1, .int .i64 q.2.kind, .bool q.2.b, .bool q.2.n.neg, .str q.2.n.digits, .int .i64 q.2.n.exp, .str q.2.s, .sl false 8 (lcells q.2.l), .sl false 9 (mcells q.2.m), .arr (σ.length + 5) y.1 2 0 y.1], .arr 2 y.1 (kidr y.2.1).flatten]) (fun y => (kidsM q.1 q.2).length - y.1) ((0, [], u)) (⟨Nat.zero_le _, by simp, Nat.le_refl _, hi4, rfl⟩) ?_ rfl (fun y hy => ?_)
      ·exact ⟨rfl, rfl, rfl, rfl, rfl, rfl, rfl, rfl, rfl, rfl, rfl, rfl, rfl, trivial⟩
      obtain ⟨j, kd, w⟩ := y
      obtain ⟨hy1, hy2, hy3, hy4, hy5⟩ := hy
      simp only at hy1 hy2 hy3 hy4 hy5 ⊢
      refine AWp_seq ?_
      refine zw4 ?_
      refine AWp_cond rfl (fun h6 => ?_) (fun h6 => ?_)
      ·(try rw [h6]); replace h6 := zcl h6
       obtain ⟨k, hk⟩ : ∃ k, (kidsM q.1 q.2)[j]? = some k := ⟨_, List.getElem?_eq_getElem (show j < (kidsM q.1 q.2).length by omega)⟩
       rw [drop_consN hk] at hy2
       have hkb := kids_jb hqb.2 hk
       have hks := kids_ks hqb.2 hk
       have hkz := pth_size k.1
       have hk1 := jsize_pos k.2
       have hdf : (kidr kd).flatten.length = j * 2 := by rw [dflat_len, hy5]
       have hnx : (if (decide (rk q.1 = 8)) = true then (path ++ pth q.1) else (path ++ pth q.1) ++ pth k.1).size + 4000010 * (jsize k.2).toNat ≤ 100000000000 := by
        have e1 : (if (decide (rk q.1 = 8)) = true then (path ++ pth q.1) else (path ++ pth q.1) ++ pth k.1).size ≤ path.size + (2 * q.1.size + 1) + (2 * k.1.size + 1) := by
         split
         ·omega
         ·rw [ByteArray.size_append]; omega
        omega
       refine AWp_skip ?_
       refine AWp_seq ?_
       refine AWp_block ?_
       refine zw2 ?_
       refine AWp_join (ι := Unit) (fun b => True) (fun b => ⟨[], [(0, .ptr (σ.length + 0) 0), (1, .str path), (5, .ptr (σ.length + 2) 0), (6, .int .i64 (m.l.length : Int)), (7, .arr (σ.length + 3) ks.length 10 0 ks.length), (8, .int .i64 (i : Int)), (9, .str q.1), (10, .str (path ++ pth q.1)), (12, .ptr (σ.length + 4) 0), (13, .sl false 9 (mcells (kidsM q.1 q.2))), (14, .bool (decide (rk q.1 = 8))), (15, .int .i64 (j : Int)), (16, .str (if (decide (rk q.1 = 8)) = true then (path ++ pth q.1) else (path ++ pth q.1) ++ pth k.1))]⟩) (fun b => σ ++ [.box [.arr (σ.length + 1) w.l.length 4 0 w.l.length, .int .i64 w.bad, .str w.path], .arr 4 w.l.length (noder w.l).flatten, .box [.int .i64 v.kind, .bool v.b, .bool v.n.neg, .str v.n.digits, .int .i64 v.n.exp, .str v.s, .sl false 8 (lcells v.l), .sl false 9 (mcells v.m)], .arr 10 ks.length (keyr ks).flatten, .box [.str q.1, .int .i64 q.2.kind, .bool q.2.b, .bool q.2.n.neg, .str q.2.n.digits, .int .i64 q.2.n.exp, .str q.2.s, .sl false 8 (lcells q.2.l), .sl false 9 (mcells q.2.m), .arr (σ.length + 5) j 2 0 j], .arr 2 j (kidr kd).flatten]) ?_ (fun b hj => ?_)
       ·skip
        refine zw2 ?_
        refine AWp_cond rfl (fun h7 => ?_) (fun h7 => ?_)
        ·(try rw [h7]); replace h7 := zcl h7
         refine AWp_regL ?_
         refine zg6 ?_
         refine zt rfl (op_buildSlice [[_]] rfl Tryz.underlying48 Tryz.sizeOf9 Tryz.zeroValue9 rfl (by decide) (by decide) rfl rfl rfl rfl rfl) ?_
         refine zt rfl (zc rfl (rpath1_c k.1 _ hks)) ?_
         refine zv2 ?_
         have hg : ¬ (decide (rk q.1 = 8)) = true := by simpa using h7
         rw [if_neg hg]
         exact ⟨(), trivial, ⟨rfl, rfl, rfl, rfl, rfl, rfl, rfl, rfl, rfl, rfl, rfl, rfl, rfl, rfl, trivial⟩, rfl⟩
        ·(try rw [h7]); replace h7 := zcl h7
         refine AWp_skip ?_
         have hg : (decide (rk q.1 = 8)) = true := by simpa using h7
         rw [if_pos hg]
         exact ⟨(), trivial, ⟨rfl, rfl, rfl, rfl, rfl, rfl, rfl, rfl, rfl, rfl, rfl, rfl, rfl, rfl, trivial⟩, rfl⟩
       ·skip
        refine AWp_seq ?_
        refine AWp_drawL #[0, 1, 0, 0, 12, 28, 60, 0, 128, 384, 896, 1920, 4092, 8188, 16383, 32767, 65535] Tryz.mixed (by decide +kernel) (by decide +kernel) ?_
        refine zd1 ?_
        refine zp1 ?_
        refine zd4 ?_
        refine zp1 ?_
        refine zd3 ?_
        refine zp1 ?_
        refine yP rfl rfl (op_lenS rfl rfl Tryz.underlying31 rfl rfl ⟨_, _, (get_own 1).trans rfl⟩) (trivial) ?_
        refine zd1 ?_
        refine yA rfl rfl (fun _ => op_buildSlice [[_, _]] rfl Tryz.underlying53 Tryz.sizeOf57 Tryz.zeroValue57 rfl (by decide) (by decide) rfl rfl rfl rfl rfl) ?_
        refine yE rfl rfl (op_appendArrT rfl 5 (sz := 2) (m := 1) (len := j) (cs := _) rfl (.inr ⟨_, rfl⟩) Tryz.underlying53 Tryz.underlying53 Tryz.type57 rfl rfl rfl (by decide) rfl rfl hdf.symm rfl rfl rfl (by show (j + 1) * 24 ≤ _; omega) (by omega) rfl) (⟨.inl rfl, ⟨.inl rfl, ⟨.inl rfl, ⟨.inl rfl, trivial⟩⟩⟩⟩) (trivial) ?_
        refine zd1 ?_
        refine yEN rfl rfl rfl (op_storeO (r := [.str q.1, .int .i64 q.2.kind, .bool q.2.b, .bool q.2.n.neg, .str q.2.n.digits, .int .i64 q.2.n.exp, .str q.2.s, .sl false 8 (lcells q.2.l), .sl false 9 (mcells q.2.m), .arr (σ.length + 5) (j + 1) 2 0 (j + 1)]) rfl Tryz.sizeOf53 rfl rfl rfl rfl rfl (by decide)) (⟨.inl rfl, ⟨.inl rfl, ⟨.inl rfl, ⟨.inl rfl, trivial⟩⟩⟩⟩) (⟨rfl, trivial⟩) ?_
        refine RP.nil rfl ?_
        refine AWp_heap (σ' := σ ++ [.box [.arr (σ.length + 1) w.l.length 4 0 w.l.length, .int .i64 w.bad, .str w.path], .arr 4 w.l.length (noder w.l).flatten, .box [.int .i64 v.kind, .bool v.b, .bool v.n.neg, .str v.n.digits, .int .i64 v.n.exp, .str v.s, .sl false 8 (lcells v.l), .sl false 9 (mcells v.m)], .arr 10 ks.length (keyr ks).flatten, .box [.str q.1, .int .i64 q.2.kind, .bool q.2.b, .bool q.2.n.neg, .str q.2.n.digits, .int .i64 q.2.n.exp, .str q.2.s, .sl false 8 (lcells q.2.l), .sl false 9 (mcells q.2.m), .arr (σ.length + 5) (j + 1) 2 0 (j + 1)], .arr 2 (j + 1) (kidr (kd ++ [⟨k.1, (w.l.length : Int)⟩])).flatten]) (by rw [kidr_snoc]; rfl) ?_
        refine AWp_regL ?_
        refine zg6 ?_
        rw [vcells_eq k.2]
        refine zg1 ?_
        refine zt rfl (zc rfl (call_suf (vcells_eq k.2 ▸ ih k.2 (if (decide (rk q.1 = 8)) = true then (path ++ pth q.1) else (path ++ pth q.1) ++ pth k.1) w σ hc0 (by omega) hkb.1 hnx hy4) hc0 (by simp [AO.cells, AV.ltL, AV.lt]) (by simp [AO.cells]) (by simp [AV.ltL, AV.lt]))) ?_
        refine zon ?_
        refine AWp_regL ?_
        refine zv3 ?_
        have hro := rnd_ok n (if (decide (rk q.1 = 8)) = true then (path ++ pth q.1) else (path ++ pth q.1) ++ pth k.1) k.2 w hy4
        refine ⟨(j + 1, kd ++ [⟨k.1, (w.l.length : Int)⟩], rnd n (if (decide (rk q.1 = 8)) = true then (path ++ pth q.1) else (path ++ pth q.1) ++ pth k.1) k.2 w), σ.length + 6, ⟨by simp only; omega, ?_, by simp only; omega, hro.2, by simp only [List.length_append, List.length_singleton]; omega⟩, by simp only; omega, by simp, ⟨rfl, rfl, rfl, rfl, rfl, rfl, rfl, rfl, rfl, rfl, rfl, rfl, rfl, trivial⟩, closed_own 6 hc0 ?_, ?_, ?_⟩
        ·simp only; rw [← hy2, rkids_q]; simp
        ·simp [ownLt, AO.cells, AV.ltL, AV.lt, ltL_append]
        ·simp [ltE, AV.lt, AV.ltL]
        ·exact take_own 6
      ·(try rw [h6]); replace h6 := zcl h6
       refine AWp_exit ?_
       have hje : j = (kidsM q.1 q.2).length := by omega
       have hrk : rkids (rnd n) (path ++ pth q.1) (decide (rk q.1 = 8)) (kidsM q.1 q.2) u = (kd, w) := by rw [← hy2, hje, List.drop_length]; simp [rkids]
       refine AWp_freezeInO 4 9 5 j 2 j rfl rfl rfl (kidr kd) rfl (kidr_el _) (by rw [kidr_len]; exact hy5) (by decide) ?_
       refine AWp_regL ?_
       refine zg2 ?_
       refine zt rfl (op_buildSlice [[_, _, _, _, _, _, _, _, _, _]] rfl Tryz.underlying45 Tryz.sizeOf55 Tryz.zeroValue55 rfl (by decide) (by decide) rfl rfl rfl rfl rfl) ?_
       refine zt rfl (op_appendArrT rfl 3 (sz := 10) (m := 1) (len := ks.length) (cs := _) rfl (.inr ⟨_, rfl⟩) Tryz.underlying45 Tryz.underlying45 Tryz.type55 rfl rfl rfl (by decide) rfl rfl hyf.symm rfl rfl rfl (by show (ks.length + 1) * 152 ≤ _; omega) (by omega) rfl) ?_
       refine zv1 ?_
       refine AWp_regL ?_
       refine zv3 ?_
       refine ⟨(i + 1, ks ++ [⟨q.1, q.2, kd⟩], w), σ.length + 4, ⟨by simp only; omega, ?_, by simp only; omega, by simp only; omega, by simp only [List.length_append, List.length_singleton]; omega⟩, by simp only; omega, by simp, ⟨rfl, rfl, rfl, rfl, rfl, ?_, rfl, trivial⟩, closed_own 4 hc0 ?_, ?_, ?_⟩
       ·simp only; rw [← hi2, rmems_kq h4 h5 hrk]
       ·rw [List.length_append]; rfl
       ·simp [ownLt, AO.cells, AV.ltL, AV.lt, ltL_append]
       ·simp [ltE, AV.lt, AV.ltL]
       ·refine (take_own 4).trans ?_
        rw [keyr_snoc, keyc_eq, List.length_append]; rfl
    ·(try rw [h4]); replace h4 := zcl h4
     refine AWp_exit ?_
     refine AWp_freezeAO 7 3 ks.length 10 ks.length (keyr ks) rfl rfl (keyr_el _) (keyr_len _) (by decide) ?_ (by decide)
     have hul := noder_len u.l
     have hfin : rmems (rnd n) path v.m [] (m1 m path v) = (false, ks, u) := by
      rw [← hi2]; exact rmems_e (by first | exact .inr (by assumption) | exact .inl (List.drop_eq_nil_of_le (by omega)))
     refine AWp_regL ?_
     refine zg6 ?_
     refine zt rfl (op_indexAddrAO (j := 1) rfl Tryz.underlying31 Tryz.sizeOf47 rfl rfl (by omega) (by omega) rfl) ?_
     refine zt rfl (op_fieldAddrO (fo := 3) rfl Tryz.underlying47 rfl rfl Tryz.sizeOf45 (by decide) rfl ⟨_, _, get_own 1⟩) ?_
     refine ztN rfl rfl (op_storeEl1 (j := 1) (i := m.l.length * 4 + 3) rfl Tryz.sizeOf45 rfl rfl rfl rfl (by omega) rfl (by rw [nflat_len]; omega)) ?_
     refine zon ?_
     (try simp only [blockQ, thenQ])
     refine ResQ_KN (σ.length + 2) (by simp) (closed_own 2 hc0 ?_) ⟨rfl, ?_⟩
     ·simp [ownLt, AO.cells, AV.ltL, AV.lt]
      rw [setk_cells u.l m.l.length ks hi3]; exact nflat_lt _ _
     ·rw [rnd_f h1 h2 hfin]; refine (take_own 2).trans ?_
      rw [← setk_cells u.l m.l.length ks hi3, setk_len]; rfl
   ·rw [h3]; replace h3 := zcl h3
    refine zv6 ?_
    refine AWp_condF rfl ?_
    refine AWp_exit ?_
    refine AWp_freezeAO 7 3 ks.length 10 ks.length (keyr ks) rfl rfl (keyr_el _) (keyr_len _) (by decide) ?_ (by decide)
    have hul := noder_len u.l
    have hfin : rmems (rnd n) path v.m [] (m1 m path v) = (false, ks, u) := by
     rw [← hi2]; exact rmems_e (by first | exact .inr (by assumption) | exact .inl (List.drop_eq_nil_of_le (by omega)))
    refine AWp_regL ?_
    refine zg6 ?_
    refine zt rfl (op_indexAddrAO (j := 1) rfl Tryz.underlying31 Tryz.sizeOf47 rfl rfl (by omega) (by omega) rfl) ?_
    refine zt rfl (op_fieldAddrO (fo := 3) rfl Tryz.underlying47 rfl rfl Tryz.sizeOf45 (by decide) rfl ⟨_, _, get_own 1⟩) ?_
    refine ztN rfl rfl (op_storeEl1 (j := 1) (i := m.l.length * 4 + 3) rfl Tryz.sizeOf45 rfl rfl rfl rfl (by omega) rfl (by rw [nflat_len]; omega)) ?_
    refine zon ?_
    (try simp only [blockQ, thenQ])
    refine ResQ_KN (σ.length + 2) (by simp) (closed_own 2 hc0 ?_) ⟨rfl, ?_⟩
    ·simp [ownLt, AO.cells, AV.ltL, AV.lt]
     rw [setk_cells u.l m.l.length ks hi3]; exact nflat_lt _ _
    ·rw [rnd_f h1 h2 hfin]; refine (take_own 2).trans ?_
     rw [← setk_cells u.l m.l.length ks hi3, setk_len]; rfl
end Lg
set_option maxRecDepth 20000
set_option maxHeartbeats 4000000
namespace Go.Proofs
open Go.Shelf
def Tryz.lays155_ren : Go.Shelf.Ren := ⟨fun | 155 => 145 | 154 => 163 | 138 => 186 | 165 => 187 | 143 => 188 | 166 => 189 | 197 => 190 | 169 => 191 | 195 => 77 | 218 => 213 | 240 => 214 | 241 => 215 | 219 => 216 | 260 => 217 | 276 => 233 | 277 => 234 | 217 => 235 | 225 => 236 | 224 => 237 | 267 => 238 | 266 => 249 | 314 => 250 | n => n, fun | 9 => 9 | 3 => 3 | 4 => 4 | 72 => 238 | 0 => 0 | 76 => 233 | 105 => 240 | 21 => 21 | 5 => 5 | 70 => 236 | 20 => 20 | 37 => 146 | 75 => 33 | 127 => 258 | 164 => 163 | 46 => 235 | 119 => 278 | 139 => 281 | 138 => 280 | 146 => 294 | 51 => 284 | 80 => 136 | n => n, fun | 1 => 1 | 3 => 2 | 4 => 3 | n => n⟩
theorem Tryz.lays155 : Go.Proofs.Lays.n155 Tryz.prog Tryz.lays155_ren := {
  mixed := by kernel_rfl, f138 := Tryz.func186.trans (congrArg some (by kernel_rfl)), f143 := Tryz.func188.trans (congrArg some (by kernel_rfl)), f154 := Tryz.func163.trans (congrArg some (by kernel_rfl)), f155 := Tryz.func145.trans (congrArg some (by kernel_rfl)), f165 := Tryz.func187.trans (congrArg some (by kernel_rfl)), f166 := Tryz.func189.trans (congrArg some (by kernel_rfl)), f169 := Tryz.func191.trans (congrArg some (by kernel_rfl)), f195 := Tryz.func77.trans (congrArg some (by kernel_rfl)), f197 := Tryz.func190.trans (congrArg some (by kernel_rfl)), f217 := Tryz.func235.trans (congrArg some (by kernel_rfl)), f218 := Tryz.func213.trans (congrArg some (by kernel_rfl)), f219 := Tryz.func216.trans (congrArg some (by kernel_rfl)), f224 := Tryz.func237.trans (congrArg some (by kernel_rfl)), f225 := Tryz.func236.trans (congrArg some (by kernel_rfl)), f240 := Tryz.func214.trans (congrArg some (by kernel_rfl)), f241 := Tryz.func215.trans (congrArg some (by kernel_rfl)), f260 := Tryz.func217.trans (congrArg some (by kernel_rfl)), f266 := Tryz.func249.trans (congrArg some (by kernel_rfl)), f267 := Tryz.func238.trans (congrArg some (by kernel_rfl)), f276 := Tryz.func233.trans (congrArg some (by kernel_rfl)), f277 := Tryz.func234.trans (congrArg some (by kernel_rfl)), f314 := Tryz.func250.trans (congrArg some (by kernel_rfl)), t0 := Tryz.underlying0, a0 := Tryz.isAgg0, z0 := Tryz.sizeOf0, v0 := Tryz.zeroValue0, t3 := Tryz.underlying3, a3 := Tryz.isAgg3, z3 := Tryz.sizeOf3, v3 := Tryz.zeroValue3, t4 := Tryz.underlying4, a4 := Tryz.isAgg4, z4 := Tryz.sizeOf4, v4 := Tryz.zeroValue4, t5 := Tryz.underlying5, a5 := Tryz.isAgg5, z5 := Tryz.sizeOf5, v5 := Tryz.zeroValue5, t9 := Tryz.underlying9, a9 := Tryz.isAgg9, z9 := Tryz.sizeOf9, v9 := Tryz.zeroValue9, t20 := Tryz.underlying20, a20 := Tryz.isAgg20, z20 := Tryz.sizeOf20, v20 := Tryz.zeroValue20, t21 := Tryz.underlying21, a21 := Tryz.isAgg21, z21 := Tryz.sizeOf21, v21 := Tryz.zeroValue21, t37 := Tryz.underlying146, a37 := Tryz.isAgg146, z37 := Tryz.sizeOf146, v37 := Tryz.zeroValue146, t46 := Tryz.underlying235, a46 := Tryz.isAgg235, z46 := Tryz.sizeOf235, v46 := Tryz.zeroValue235, t51 := Tryz.underlying284, a51 := Tryz.isAgg284, z51 := Tryz.sizeOf284, v51 := Tryz.zeroValue284, t70 := Tryz.underlying236, a70 := Tryz.isAgg236, z70 := Tryz.sizeOf236, v70 := Tryz.zeroValue236, t72 := Tryz.underlying238, a72 := Tryz.isAgg238, z72 := Tryz.sizeOf238, v72 := Tryz.zeroValue238, t75 := Tryz.underlying33, a75 := Tryz.isAgg33, z75 := Tryz.sizeOf33, v75 := Tryz.zeroValue33, t76 := Tryz.underlying233, a76 := Tryz.isAgg233, z76 := Tryz.sizeOf233, v76 := Tryz.zeroValue233, t105 := Tryz.underlying240, a105 := Tryz.isAgg240, z105 := Tryz.sizeOf240, v105 := Tryz.zeroValue240, t119 := Tryz.underlying278, a119 := Tryz.isAgg278, z119 := Tryz.sizeOf278, t127 := Tryz.underlying258, a127 := Tryz.isAgg258, z127 := Tryz.sizeOf258, v127 := Tryz.zeroValue258, t138 := Tryz.underlying280, a138 := Tryz.isAgg280, z138 := Tryz.sizeOf280, v138 := Tryz.zeroValue280, t139 := Tryz.underlying281, a139 := Tryz.isAgg281, z139 := Tryz.sizeOf281, v139 := Tryz.zeroValue281, t146 := Tryz.underlying294, a146 := Tryz.isAgg294, z146 := Tryz.sizeOf294, v146 := Tryz.zeroValue294, t164 := Tryz.underlying163, a164 := Tryz.isAgg163, z164 := Tryz.sizeOf163, v164 := Tryz.zeroValue163, g1 := by kernel_rfl, g3 := by kernel_rfl, g4 := by kernel_rfl }

def Tryz.laysM143_ren : Go.Shelf.Ren := ⟨fun | 143 => 188 | 219 => 216 | 217 => 235 | 225 => 236 | 224 => 237 | 267 => 238 | 266 => 249 | 314 => 250 | n => n, fun | 9 => 9 | 3 => 3 | 4 => 4 | 5 => 5 | 46 => 235 | 146 => 294 | 51 => 284 | n => n, fun | 1 => 1 | n => n⟩
theorem Tryz.laysM143 : Go.Proofs.LaysM.n143 Tryz.prog Tryz.laysM143_ren := {
  mixed := by kernel_rfl, f143 := Tryz.func188.trans (congrArg some (by kernel_rfl)), f217 := Tryz.func235.trans (congrArg some (by kernel_rfl)), f219 := Tryz.func216.trans (congrArg some (by kernel_rfl)), f224 := Tryz.func237.trans (congrArg some (by kernel_rfl)), f225 := Tryz.func236.trans (congrArg some (by kernel_rfl)), f266 := Tryz.func249.trans (congrArg some (by kernel_rfl)), f267 := Tryz.func238.trans (congrArg some (by kernel_rfl)), f314 := Tryz.func250.trans (congrArg some (by kernel_rfl)), t3 := Tryz.underlying3, a3 := Tryz.isAgg3, z3 := Tryz.sizeOf3, v3 := Tryz.zeroValue3, t4 := Tryz.underlying4, a4 := Tryz.isAgg4, z4 := Tryz.sizeOf4, v4 := Tryz.zeroValue4, t5 := Tryz.underlying5, a5 := Tryz.isAgg5, z5 := Tryz.sizeOf5, v5 := Tryz.zeroValue5, t9 := Tryz.underlying9, a9 := Tryz.isAgg9, z9 := Tryz.sizeOf9, v9 := Tryz.zeroValue9, t46 := Tryz.underlying235, a46 := Tryz.isAgg235, z46 := Tryz.sizeOf235, v46 := Tryz.zeroValue235, t51 := Tryz.underlying284, a51 := Tryz.isAgg284, z51 := Tryz.sizeOf284, v51 := Tryz.zeroValue284, t146 := Tryz.underlying294, a146 := Tryz.isAgg294, z146 := Tryz.sizeOf294, v146 := Tryz.zeroValue294, g1 := by kernel_rfl, i3 := by kernel_rfl, i4 := by kernel_rfl, i5 := by kernel_rfl, i9 := by kernel_rfl, i46 := by kernel_rfl, i51 := by kernel_rfl, i146 := by kernel_rfl, m1 := by kernel_rfl, s1_3 := fun w h => Go.Proofs.cell_of_shapedOpen_int (zero := #[.int .i64 0]) (t := 3) h (of_decide_eq_true (by kernel_rfl)) (by kernel_rfl) rfl (by kernel_rfl) (by kernel_rfl) Tryz.underlying3 }
theorem Tryz.bldX : Builder.Extra Tryz.prog Tryz.lays155_ren := { sizeBuilder := by kernel_rfl, liesBuilder := by kernel_rfl, t5 := Tryz.underlying5, a5 := Tryz.isAgg5, z5 := Tryz.sizeOf5, v5 := Tryz.zeroValue5, infoByte := by kernel_rfl, cellsByte := by kernel_rfl, sizeByte := by kernel_rfl, neB5 := by decide }
end Go.Proofs
namespace Lg
open Go Go.Proofs Go.RowKit
class ML [GLay] : Prop where
  cell : ∃ m, ∀ w : World, Laid w → w.cell? ⟨1, 0, none⟩ = some (.int .i64 m)
section
variable [GLay] [ML]
theorem replA_c (s : ByteArray) (old nw : BL) (σ : List AO) (h0 : old ≠ []) (hne : old ≠ nw) (hs : s.size ≤ 4000000) (hn : nw.length ≤ 2) : ACalls Tryz.prog 145 [.str s, .str (ba old), .str (ba nw)] σ (Ret (.str (ba (ra old nw s.data.toList))) σ) :=
  ACalls_below fun st cargs g hp => by
    obtain ⟨q, qs, rfl, h1, h2⟩ := hp.inv_cons
    obtain ⟨q2, qs2, rfl, h3, h4⟩ := h2.inv_cons
    obtain ⟨q3, qs3, rfl, h5, h6⟩ := h4.inv_cons
    obtain rfl := h6.inv_nil
    obtain rfl := h1.inv_str
    obtain rfl := h3.inv_str
    obtain rfl := h5.inv_str
    obtain ⟨m, hm⟩ := ML.cell
    have hol : 1 ≤ (ba old).size := by rw [ba_size]; cases old with
      | nil => exact absurd rfl h0
      | cons => simp
    have hc := Lib.countB_le (ba old) hol s.size s (Nat.le_refl _)
    have hb : Lib.countB s (ba old) * (ba nw).size ≤ 4000000 * 2 := Nat.mul_le_mul (by omega) (by rw [ba_size]; exact hn)
    have h := Any.strings_ReplaceAll Tryz.lays155 Tryz.bldX s (ba old) (ba nw) m st.w (by omega) (hm _ g.laid) hol (by omega)
    rw [ba_toList, ba_toList, ra_all hne] at h
    exact ⟨_, fun _ => .str _, h⟩
end
theorem cell_heap0 [g : GLay] {W w : World} (hg : ∀ b, g.f b = W.heap[b]?) (hw : Laid w) {b c : Nat} {v : Value} (h : W.cell? ⟨b, c, none⟩ = some v) : w.cell? ⟨b, c, none⟩ = some v := by
  cases hb : W.heap[b]? with
  | none => simp [World.cell?, hb] at h
  | some o => rw [← h]; simp only [World.cell?, hb, hw b o ((hg b).trans hb)]
theorem ML.of [g : GLay] {W : World} (hS : W.ShapedOpen Tryz.prog) (hg : ∀ b, g.f b = W.heap[b]?) : ML := by
  obtain ⟨m, hm⟩ := Tryz.laysM143.s1_3 W hS
  exact ⟨m, fun w hw => cell_heap0 hg hw hm⟩
end Lg
set_option maxRecDepth 20000
set_option maxHeartbeats 4000000
namespace Lg
open Go Go.Proofs Go.RowKit
variable [GLay] [ML]
theorem pshw_c (f : Bool) (l : List BL) (σ : List AO) (hl : l.length ≤ 1000) (hx : ∀ x ∈ l, x.length ≤ 1000000) : ACalls Tryz.prog 102 [.sl f 1 (srow l)] σ (Ret (.str (ba (shw l))) σ) := by
 refine ACalls_body Tryz.func102 rfl Tryz.ntmps102 (res1 Tryz.results102) (Nat.le_of_ble_eq_true rfl) (fun hcl hal => ?_)
 have hrl := srow_len l
 refine zw1 ?_
 refine zw1 ?_
 refine AWp_seq ?_
 refine zw3 ?_
 refine AWp_block ?_
 -- loop 0 LIVE 2:assign 3:assign 6:move 7:call 8:move
 refine AWp_loop (ι := Nat) (fun i => i ≤ l.length) (fun i => ⟨[], [(3, .str (ba (shw (l.take i)))), (6, .sl f 1 (srow l)), (7, .int .i64 ((srow l).length : Int)), (8, .int .i64 (i : Int))]⟩) (fun i => σ) (fun i => l.length - i) (0) (Nat.zero_le _) ?_ rfl (fun i hi => ?_)
 ·exact ⟨rfl, rfl, rfl, rfl, rfl, trivial⟩
 have hsl := shw_len 1000000 (l.take i) (fun x h => hx x (List.mem_of_mem_take h))
 have htl : (l.take i).length ≤ 1000 := by rw [List.length_take]; omega
 have hsl2 : (shw (l.take i)).length ≤ 1000 * 2000001 := Nat.le_trans hsl (Nat.mul_le_mul htl (Nat.le_refl _))
 refine zw1 ?_
 refine AWp_seq ?_
 refine AWp_cond rfl (fun h1 => ?_) (fun h1 => ?_)
 ·(try rw [h1]); replace h1 := zcl h1
  obtain ⟨x, hxi⟩ : ∃ x, l[i]? = some x := ⟨_, List.getElem?_eq_getElem (show i < l.length by omega)⟩
  have hxr := srow_get hxi
  have hxl := hx x (List.mem_of_getElem? hxi)
  have hr1 := ra1_len 126 [126, 48] (by decide) x
  have he1 := esc_len x
  refine AWp_skip ?_
  refine AWp_seq ?_
  refine AWp_block ?_
  refine zsr ?_
  refine zt rfl (op_indexAddr rfl Tryz.underlying48 Tryz.sizeOf9 rfl rfl (by omega) (hxr)) ?_
  refine zv2 ?_
  refine AWp_regL ?_
  refine zg2 ?_
  refine zt rfl (zc rfl (replA_c (ba x) [126] [126, 48] _ (by decide) (by decide) (by rw [ba_size]; omega) (by decide))) ?_
  rw [ba_toList]
  refine zt rfl (zc rfl (replA_c (ba (ra [126] [126, 48] x)) [47] [126, 49] _ (by decide) (by decide) (by rw [ba_size]; omega) (by decide))) ?_
  rw [ba_toList, esc_ra]
  have z1 : (ByteArray.mk #[47]).size = 1 := rfl
  have z2 : (ba (pesc x)).size = (pesc x).length := ba_size _
  have z3 : (ba (shw (l.take i))).size = (shw (l.take i)).length := ba_size _
  have z4 := ByteArray.size_append (a := (⟨#[47]⟩ : ByteArray)) (b := ba (pesc x))
  refine zv3 ?_
  refine AWp_regL ?_
  refine zv2 ?_
  refine ⟨i + 1, σ.length, by omega, by omega, Nat.le_refl _, ⟨rfl, ?_, rfl, rfl, rfl, trivial⟩, hcl, ?_, List.take_length⟩
  ·rw [List.take_add_one, hxi]; show _ = AV.str (ba (shw (List.take i l ++ [x]))); rw [shw_snoc, show (47 :: pesc x : BL) = [47] ++ pesc x from rfl, ← ba_app, ← ba_app]; rfl
  ·simp [ltE, AV.lt]
 ·(try rw [h1]); replace h1 := zcl h1
  refine AWp_exit ?_
  refine zw2 ?_
  refine zrt ?_
  exact ResQ_10 rfl hcl trivial (Ret_of (by rw [show i = l.length by omega, List.take_length]))

end Lg
set_option maxRecDepth 20000
set_option maxHeartbeats 4000000
namespace Go.Proofs
open Go.Shelf
def Tryz.laysM171_ren : Go.Shelf.Ren := ⟨fun | 171 => 148 | 243 => 174 | 246 => 198 | 283 => 220 | 284 => 221 | 285 => 222 | 286 => 223 | 129 => 240 | 317 => 239 | 318 => 241 | 319 => 242 | 320 => 243 | 337 => 251 | 338 => 252 | n => n, fun | 3 => 3 | 9 => 9 | 2 => 2 | 4 => 4 | 171 => 261 | 0 => 0 | 53 => 262 | 37 => 146 | 5 => 5 | 173 => 265 | 212 => 283 | 51 => 284 | 20 => 20 | 213 => 285 | 46 => 235 | 232 => 302 | 233 => 303 | n => n, fun | 17 => 4 | 18 => 7 | 19 => 8 | n => n⟩
theorem Tryz.laysM171 : Go.Proofs.LaysM.n171 Tryz.prog Tryz.laysM171_ren := {
  mixed := by kernel_rfl, f129 := Tryz.func240.trans (congrArg some (by kernel_rfl)), f171 := Tryz.func148.trans (congrArg some (by kernel_rfl)), f243 := Tryz.func174.trans (congrArg some (by kernel_rfl)), f246 := Tryz.func198.trans (congrArg some (by kernel_rfl)), f283 := Tryz.func220.trans (congrArg some (by kernel_rfl)), f284 := Tryz.func221.trans (congrArg some (by kernel_rfl)), f285 := Tryz.func222.trans (congrArg some (by kernel_rfl)), f286 := Tryz.func223.trans (congrArg some (by kernel_rfl)), f317 := Tryz.func239.trans (congrArg some (by kernel_rfl)), f318 := Tryz.func241.trans (congrArg some (by kernel_rfl)), f319 := Tryz.func242.trans (congrArg some (by kernel_rfl)), f320 := Tryz.func243.trans (congrArg some (by kernel_rfl)), f337 := Tryz.func251.trans (congrArg some (by kernel_rfl)), f338 := Tryz.func252.trans (congrArg some (by kernel_rfl)), t0 := Tryz.underlying0, a0 := Tryz.isAgg0, z0 := Tryz.sizeOf0, v0 := Tryz.zeroValue0, t2 := Tryz.underlying2, a2 := Tryz.isAgg2, z2 := Tryz.sizeOf2, v2 := Tryz.zeroValue2, t3 := Tryz.underlying3, a3 := Tryz.isAgg3, z3 := Tryz.sizeOf3, v3 := Tryz.zeroValue3, t4 := Tryz.underlying4, a4 := Tryz.isAgg4, z4 := Tryz.sizeOf4, v4 := Tryz.zeroValue4, t5 := Tryz.underlying5, a5 := Tryz.isAgg5, z5 := Tryz.sizeOf5, v5 := Tryz.zeroValue5, t9 := Tryz.underlying9, a9 := Tryz.isAgg9, z9 := Tryz.sizeOf9, v9 := Tryz.zeroValue9, t20 := Tryz.underlying20, a20 := Tryz.isAgg20, z20 := Tryz.sizeOf20, v20 := Tryz.zeroValue20, t37 := Tryz.underlying146, a37 := Tryz.isAgg146, z37 := Tryz.sizeOf146, v37 := Tryz.zeroValue146, t46 := Tryz.underlying235, a46 := Tryz.isAgg235, z46 := Tryz.sizeOf235, v46 := Tryz.zeroValue235, t51 := Tryz.underlying284, a51 := Tryz.isAgg284, z51 := Tryz.sizeOf284, v51 := Tryz.zeroValue284, t53 := Tryz.underlying262, a53 := Tryz.isAgg262, z53 := Tryz.sizeOf262, v53 := Tryz.zeroValue262, t171 := Tryz.underlying261, a171 := Tryz.isAgg261, z171 := Tryz.sizeOf261, v171 := Tryz.zeroValue261, t173 := Tryz.underlying265, a173 := Tryz.isAgg265, z173 := Tryz.sizeOf265, v173 := Tryz.zeroValue265, t212 := Tryz.underlying283, a212 := Tryz.isAgg283, z212 := Tryz.sizeOf283, v212 := Tryz.zeroValue283, t213 := Tryz.underlying285, a213 := Tryz.isAgg285, z213 := Tryz.sizeOf285, t232 := Tryz.underlying302, a232 := Tryz.isAgg302, z232 := Tryz.sizeOf302, v232 := Tryz.zeroValue302, t233 := Tryz.underlying303, a233 := Tryz.isAgg303, z233 := Tryz.sizeOf303, v233 := Tryz.zeroValue303, g17 := by kernel_rfl, g18 := by kernel_rfl, g19 := by kernel_rfl, i0 := by kernel_rfl, i2 := by kernel_rfl, i3 := by kernel_rfl, i4 := by kernel_rfl, i5 := by kernel_rfl, i9 := by kernel_rfl, i20 := by kernel_rfl, i37 := by kernel_rfl, i46 := by kernel_rfl, i51 := by kernel_rfl, i53 := by kernel_rfl, i171 := by kernel_rfl, i173 := by kernel_rfl, i212 := by kernel_rfl, i232 := by kernel_rfl, i233 := by kernel_rfl, m17 := by kernel_rfl, m18 := by kernel_rfl, m19 := by kernel_rfl }
end Go.Proofs
namespace Lg
open Go Go.Proofs Go.RowKit
class S10 [GLay] : Prop where
  tabs : ∀ w : World, Laid w → Go.Lib.TabIs Tryz.prog w "internal/strconv.uint64pow10" .u64 Go.Lib.pow10Tab
variable [GLay]
theorem PW.int1 {s : CS} {k : IntKind} {n : Int} {vs : List Value} (h : PW s [.int k n] vs) : vs = [.int k n] := by
  obtain ⟨h1, h2⟩ := h
  match vs, h1 with
  | [v], _ => rw [(h2 0 (.int k n) v rfl rfl).inv_int]
variable [S10]
theorem itoa_c (n : Int) (σ : List AO) (h0 : -9223372036854775808 ≤ n) (h1 : n ≤ 9223372036854775807) : ACalls Tryz.prog 148 [.int .i64 n] σ (Ret (.str (itoaB n)) σ) :=
  ACalls_below fun st cargs g hp => by
    rw [hp.int1]
    refine ⟨.string ⟨(Go.Lib.itoa n).toArray⟩, fun _ => ?_, (Any.strconv_Itoa Tryz.laysM171 n h0 h1 st.w (S10.tabs _ g.laid)).mono ?_⟩
    rotate_left
    · rintro e w' ⟨rfl, k, os, rfl⟩
      exact ⟨rfl, rfl, rfl, rfl, by simp [Go.Sort.grow], fun i hi => by
        show ((st.w.drewN k).heap ++ os)[i]? = _
        rw [Array.getElem?_append_left (by show i < st.w.heap.size; omega)]
        rfl⟩
    · exact .str _
end Lg
namespace Lg
open Go Go.Proofs Go.RowKit
theorem S10.of [g : GLay] {W : World} (hT : Go.Lib.TabIs Tryz.prog W "internal/strconv.uint64pow10" .u64 Go.Lib.pow10Tab) (hg : ∀ b, g.f b = W.heap[b]?) : S10 := ⟨fun w hw => by
  unfold Go.Lib.TabIs World.var? at *
  cases hn : Tryz.prog.globalNamed "internal/strconv.uint64pow10" with
  | none => rw [hn] at hT; simp at hT
  | some b =>
    rw [hn] at hT
    simp only [Option.bind_some] at *
    cases hb : W.heap[b]? with
    | none => rw [hb] at hT; simp at hT
    | some o => rw [hb] at hT; rw [hw b o ((hg b).trans hb)]; exact hT⟩
end Lg
set_option maxRecDepth 20000
set_option maxHeartbeats 4000000
namespace Lg
open Go Go.Proofs Go.RowKit
variable [GLay] [S10]
theorem mclone_c (m : List (ByteArray × JV)) (σ : List AO) (hm : m.length ≤ 1000000000) : ACalls Tryz.prog 147 [.sl false 9 (mcells m)] σ (Ret (.sl false 9 (mcells m)) σ) := by
 refine ACalls_body Tryz.func147 rfl Tryz.ntmps147 (res1 Tryz.results147) (Nat.le_of_ble_eq_true rfl) (fun hcl hal => ?_)
 refine zw1 ?_
 refine AWp_seq ?_
 refine zu1 ?_
 refine ztR rfl (op_eqSlR rfl Tryz.underlying26 rfl) (fun v1_1 s1_1 hr => ?_) (fun v1_1 s1_1 hr => ?_)
 rotate_left
 ·exact hr.elim
 obtain ⟨rfl, b, rfl, hb⟩ := hr
 refine zon ?_
 refine AWp_cond rfl (fun h1 => ?_) (fun h1 => ?_)
 ·(try rw [h1]); replace h1 := zcl h1
  refine zw1 ?_
  refine AWp_slotLe 2 rfl (AVle.nils false 9) ?_ (by decide)
  refine zrt ?_
  rw [hb h1]
  exact ResQ_10 rfl hcl (by simp [AV.lt, AV.ltLL]) (Ret_of rfl)
 ·(try rw [h1]); replace h1 := zcl h1
  refine AWp_skip ?_
  refine zsr ?_
  refine zt rfl (op_buildSlice0 (sz := 9) rfl Tryz.underlying26 Tryz.sizeOf122) ?_
  refine zg1 ?_
  refine zt rfl (op_appendNew (sz := 9) (m := m.length) (cs := (mcells m).flatten) rfl (.inr ⟨_, rfl⟩) Tryz.underlying26 Tryz.underlying26 Tryz.type122 rfl rfl rfl (by decide) (.inr rfl) (by rw [← mcells_length m]; rfl) rfl (mones _) (by show m.length * 128 ≤ _; omega) (by omega) (mflat_len _)) ?_
  refine zv1 ?_
  refine AWp_freezeMO 2 0 _ _ m rfl rfl rfl ?_ (by decide)
  refine zrt ?_
  exact ResQ_1 rfl hcl (by simp [AV.lt]) (Ret_of rfl)

theorem kids_c (name : ByteArray) (v : JV) (σ : List AO) (hl : v.l.length ≤ 1000000000) (hm : v.m.length ≤ 1000000000) : ACalls Tryz.prog 104 [.str name, .agg (vcells v)] σ (Ret (.sl false 9 (mcells (kidsM name v))) σ) := by
 refine ACalls_body Tryz.func104 rfl Tryz.ntmps104 (res1 Tryz.results104) (Nat.le_of_ble_eq_true rfl) (fun hcl hal => ?_)
 rw [vcells_eq v]
 have hll := lcells_length v.l
 refine zw2 ?_
 refine zw1 ?_
 refine AWp_seq ?_
 refine zw1 ?_
 refine AWp_block ?_
 refine AWp_seq ?_
 refine zw2 ?_
 refine AWp_cond rfl (fun h1 => ?_) (fun h1 => ?_)
 ·(try rw [h1]); replace h1 := zcl h1
  have hk8 : rk name = 8 := by rw [h1]; decide +kernel
  refine AWp_skip ?_
  refine AWp_condT rfl ?_
  refine AWp_regL ?_
  refine zg3 ?_
  refine zt rfl (op_buildSlice [[_, _, _, _, _, _, _, _, _]] rfl Tryz.underlying26 Tryz.sizeOf122 Tryz.zeroValue122 rfl (by decide) (by decide) rfl rfl rfl rfl rfl) ?_
  refine zt rfl (op_appendNewT rfl (n := 1) rfl (sz := 9) (m := 1) (cs := _) rfl (.inr ⟨_, rfl⟩) Tryz.underlying26 Tryz.underlying26 Tryz.type122 rfl rfl rfl (by decide) (.inl rfl) rfl rfl rfl (by show 1 * 128 ≤ _; omega) (by omega) rfl) ?_
  refine zv1 ?_
  refine AWp_seq ?_
  first | refine AWp_freezeMO 5 1 _ _ [(e0, v)] rfl rfl (by rw [one_cells]; rfl) ?_ (by decide) | refine AWp_freezeMO 5 1 _ _ (kZ v.l) (kZ_len _) rfl rfl ?_ (by decide) | refine AWp_slotLe 5 rfl (AVle.nils false 9) ?_ (by decide) | skip
  refine AWp_regL ?_
  refine zv2 ?_
  refine zrt ?_
  rw [kidsM_8 v hk8]
  exact ResQ_1 rfl hcl (by simp [AV.lt]) (Ret_of rfl)
 ·(try rw [h1]); replace h1 := zcl h1
  refine zw2 ?_
  refine AWp_cond rfl (fun h2 => ?_) (fun h2 => ?_)
  ·(try rw [h2]); replace h2 := zcl h2
   have hk8 : rk name = 8 := by rw [h2]; decide +kernel
   refine AWp_skip ?_
   refine AWp_condT rfl ?_
   refine AWp_regL ?_
   refine zg3 ?_
   refine zt rfl (op_buildSlice [[_, _, _, _, _, _, _, _, _]] rfl Tryz.underlying26 Tryz.sizeOf122 Tryz.zeroValue122 rfl (by decide) (by decide) rfl rfl rfl rfl rfl) ?_
   refine zt rfl (op_appendNewT rfl (n := 1) rfl (sz := 9) (m := 1) (cs := _) rfl (.inr ⟨_, rfl⟩) Tryz.underlying26 Tryz.underlying26 Tryz.type122 rfl rfl rfl (by decide) (.inl rfl) rfl rfl rfl (by show 1 * 128 ≤ _; omega) (by omega) rfl) ?_
   refine zv1 ?_
   refine AWp_seq ?_
   first | refine AWp_freezeMO 5 1 _ _ [(e0, v)] rfl rfl (by rw [one_cells]; rfl) ?_ (by decide) | refine AWp_freezeMO 5 1 _ _ (kZ v.l) (kZ_len _) rfl rfl ?_ (by decide) | refine AWp_slotLe 5 rfl (AVle.nils false 9) ?_ (by decide) | skip
   refine AWp_regL ?_
   refine zv2 ?_
   refine zrt ?_
   rw [kidsM_8 v hk8]
   exact ResQ_1 rfl hcl (by simp [AV.lt]) (Ret_of rfl)
  ·(try rw [h2]); replace h2 := zcl h2
   refine AWp_regL ?_
   refine zv2 ?_
   refine AWp_cond rfl (fun h3 => ?_) (fun h3 => ?_)
   ·(try rw [h3]); replace h3 := zcl h3
    have hk8 : rk name = 8 := by rw [h3]; decide +kernel
    refine AWp_regL ?_
    refine zg3 ?_
    refine zt rfl (op_buildSlice [[_, _, _, _, _, _, _, _, _]] rfl Tryz.underlying26 Tryz.sizeOf122 Tryz.zeroValue122 rfl (by decide) (by decide) rfl rfl rfl rfl rfl) ?_
    refine zt rfl (op_appendNewT rfl (n := 1) rfl (sz := 9) (m := 1) (cs := _) rfl (.inr ⟨_, rfl⟩) Tryz.underlying26 Tryz.underlying26 Tryz.type122 rfl rfl rfl (by decide) (.inl rfl) rfl rfl rfl (by show 1 * 128 ≤ _; omega) (by omega) rfl) ?_
    refine zv1 ?_
    refine AWp_seq ?_
    first | refine AWp_freezeMO 5 1 _ _ [(e0, v)] rfl rfl (by rw [one_cells]; rfl) ?_ (by decide) | refine AWp_freezeMO 5 1 _ _ (kZ v.l) (kZ_len _) rfl rfl ?_ (by decide) | refine AWp_slotLe 5 rfl (AVle.nils false 9) ?_ (by decide) | skip
    refine AWp_regL ?_
    refine zv2 ?_
    refine zrt ?_
    rw [kidsM_8 v hk8]
    exact ResQ_1 rfl hcl (by simp [AV.lt]) (Ret_of rfl)
   ·(try rw [h3]); replace h3 := zcl h3
    refine AWp_seq ?_
    refine zw2 ?_
    refine AWp_cond rfl (fun h4 => ?_) (fun h4 => ?_)
    ·(try rw [h4]); replace h4 := zcl h4
     refine AWp_skip ?_
     refine AWp_condT rfl ?_
     refine AWp_regL ?_
     refine zg2 ?_
     refine zt rfl (zc rfl (mclone_c v.m _ hm)) ?_
     refine zv1 ?_
     refine AWp_seq ?_
     first | refine AWp_freezeMO 5 1 _ _ [(e0, v)] rfl rfl (by rw [one_cells]; rfl) ?_ (by decide) | refine AWp_freezeMO 5 1 _ _ (kZ v.l) (kZ_len _) rfl rfl ?_ (by decide) | refine AWp_slotLe 5 rfl (AVle.nils false 9) ?_ (by decide) | skip
     refine AWp_regL ?_
     refine zv2 ?_
     refine zrt ?_
     rw [kidsM_9 v (show rk name = 9 by rw [h4]; decide +kernel)]
     exact ResQ_1 rfl hcl (by simp [AV.lt]) (Ret_of rfl)
    ·(try rw [h4]); replace h4 := zcl h4
     refine AWp_regL ?_
     refine zv2 ?_
     refine AWp_cond rfl (fun h5 => ?_) (fun h5 => ?_)
     ·(try rw [h5]); replace h5 := zcl h5
      refine AWp_regL ?_
      refine zg2 ?_
      refine zt rfl (zc rfl (mclone_c v.m _ hm)) ?_
      refine zv1 ?_
      refine AWp_seq ?_
      first | refine AWp_freezeMO 5 1 _ _ [(e0, v)] rfl rfl (by rw [one_cells]; rfl) ?_ (by decide) | refine AWp_freezeMO 5 1 _ _ (kZ v.l) (kZ_len _) rfl rfl ?_ (by decide) | refine AWp_slotLe 5 rfl (AVle.nils false 9) ?_ (by decide) | skip
      refine AWp_regL ?_
      refine zv2 ?_
      refine zrt ?_
      rw [kidsM_9 v (show rk name = 9 by rw [h5]; decide +kernel)]
      exact ResQ_1 rfl hcl (by simp [AV.lt]) (Ret_of rfl)
     ·(try rw [h5]); replace h5 := zcl h5
      refine AWp_seq ?_
      refine zw2 ?_
      refine AWp_cond rfl (fun h6 => ?_) (fun h6 => ?_)
      ·(try rw [h6]); replace h6 := zcl h6
       have hk10 : rk name = 10 := by rw [h6]; decide +kernel
       refine AWp_skip ?_
       refine AWp_condT rfl ?_
       refine AWp_seq ?_
       refine AWp_ghostTO 5 9 1 rfl rfl ?_ (by decide)
       refine AWp_regL ?_
       refine zv4 ?_
       refine AWp_block ?_
       -- loop 0 LIVE 4:assign 5:assign 29:load 30:call 31:move
       refine AWp_loop (ι := Nat) (fun i => i ≤ v.l.length) (fun i => ⟨[], [(5, .arr (σ.length + 1) i 9 0 i), (29, .sl false 8 (lcells v.l)), (30, .int .i64 ((lcells v.l).length : Int)), (31, .int .i64 (i : Int))]⟩) (fun i => σ ++ [.box [.int .i64 v.kind, .bool v.b, .bool v.n.neg, .str v.n.digits, .int .i64 v.n.exp, .str v.s, .sl false 8 (lcells v.l), .sl false 9 (mcells v.m)], .arr 9 i (mcells (kZ (v.l.take i))).flatten]) (fun i => v.l.length - i) (0) (Nat.zero_le _) ?_ rfl (fun i hi => ?_)
       ·exact ⟨rfl, rfl, rfl, rfl, rfl, trivial⟩
       have hkl : (kZ (v.l.take i)).length = i := by rw [kZ_len, List.length_take]; omega
       have hfl := mflat_len (kZ (v.l.take i))
       refine zw1 ?_
       refine AWp_seq ?_
       refine AWp_cond rfl (fun h7 => ?_) (fun h7 => ?_)
       ·(try rw [h7]); replace h7 := zcl h7
        obtain ⟨x, hx⟩ : ∃ x, v.l[i]? = some x := ⟨_, List.getElem?_eq_getElem (show i < v.l.length by omega)⟩
        refine AWp_skip ?_
        refine AWp_seq ?_
        refine AWp_block ?_
        refine zu2 ?_
        rw [vcells_eq x]
        refine zv4 ?_
        refine AWp_drawL #[0, 0, 2, 0, 14, 30, 63, 127] Tryz.mixed (by decide +kernel) (by decide +kernel) ?_
        refine zd2 ?_
        refine yP rfl rfl (zc rfl (itoa_c i _ (by omega) (by omega))) (trivial) ?_
        refine zp1 ?_
        refine zd1 ?_
        refine yA rfl rfl (fun _ => op_buildSlice [[_, _, _, _, _, _, _, _, _]] rfl Tryz.underlying26 Tryz.sizeOf122 Tryz.zeroValue122 rfl (by decide) (by decide) rfl rfl rfl rfl rfl) ?_
        refine yE rfl rfl (op_appendArrT rfl 1 (sz := 9) (m := 1) (len := i) (cs := _) rfl (.inr ⟨_, rfl⟩) Tryz.underlying26 Tryz.underlying26 Tryz.type122 rfl rfl rfl (by decide) rfl rfl (by rw [hfl, hkl]) rfl rfl rfl (by show (i + 1) * 128 ≤ _; omega) (by omega) rfl) (⟨.inl rfl, ⟨.inl rfl, trivial⟩⟩) (trivial) ?_
        refine zd1 ?_
        refine RP.nil rfl ?_
        refine AWp_regL ?_
        refine zv2 ?_
        refine ⟨i + 1, σ.length + 2, by omega, by omega, by simp, ⟨rfl, rfl, rfl, rfl, rfl, trivial⟩, closed_own 2 hcl ?_, ?_, ?_⟩
        ·simp [ownLt, AO.cells, AV.ltL, AV.lt, ofConst1, ltL_append, mflat_lt]
        ·simp [ltE, AV.lt]; (try omega)
        ·rw [kZ_take hx, mcells_snoc, mrow, vcells_eq x]; exact take_own 2
       ·(try rw [h7]); replace h7 := zcl h7
        have hie : i = v.l.length := by omega
        subst hie
        rw [List.take_length]
        refine AWp_exit ?_
        refine AWp_seq ?_
        first | refine AWp_freezeMO 5 1 _ _ [(e0, v)] rfl rfl (by rw [one_cells]; rfl) ?_ (by decide) | refine AWp_freezeMO 5 1 _ _ (kZ v.l) (kZ_len _) rfl rfl ?_ (by decide) | refine AWp_slotLe 5 rfl (AVle.nils false 9) ?_ (by decide) | skip
        refine AWp_regL ?_
        refine zv2 ?_
        refine zrt ?_
        rw [kidsM_10 v hk10]
        exact ResQ_1 rfl hcl (by simp [AV.lt]) (Ret_of rfl)
      ·(try rw [h6]); replace h6 := zcl h6
       refine zw2 ?_
       refine AWp_cond rfl (fun h8 => ?_) (fun h8 => ?_)
       ·(try rw [h8]); replace h8 := zcl h8
        have hk10 : rk name = 10 := by rw [h8]; decide +kernel
        refine AWp_skip ?_
        refine AWp_condT rfl ?_
        refine AWp_seq ?_
        refine AWp_ghostTO 5 9 1 rfl rfl ?_ (by decide)
        refine AWp_regL ?_
        refine zv4 ?_
        refine AWp_block ?_
        -- loop 1 LIVE 4:assign 5:assign 29:load 30:call 31:move
        refine AWp_loop (ι := Nat) (fun i => i ≤ v.l.length) (fun i => ⟨[], [(5, .arr (σ.length + 1) i 9 0 i), (29, .sl false 8 (lcells v.l)), (30, .int .i64 ((lcells v.l).length : Int)), (31, .int .i64 (i : Int))]⟩) (fun i => σ ++ [.box [.int .i64 v.kind, .bool v.b, .bool v.n.neg, .str v.n.digits, .int .i64 v.n.exp, .str v.s, .sl false 8 (lcells v.l), .sl false 9 (mcells v.m)], .arr 9 i (mcells (kZ (v.l.take i))).flatten]) (fun i => v.l.length - i) (0) (Nat.zero_le _) ?_ rfl (fun i hi => ?_)
        ·exact ⟨rfl, rfl, rfl, rfl, rfl, trivial⟩
        have hkl : (kZ (v.l.take i)).length = i := by rw [kZ_len, List.length_take]; omega
        have hfl := mflat_len (kZ (v.l.take i))
        refine zw1 ?_
        refine AWp_seq ?_
        refine AWp_cond rfl (fun h9 => ?_) (fun h9 => ?_)
        ·(try rw [h9]); replace h9 := zcl h9
         obtain ⟨x, hx⟩ : ∃ x, v.l[i]? = some x := ⟨_, List.getElem?_eq_getElem (show i < v.l.length by omega)⟩
         refine AWp_skip ?_
         refine AWp_seq ?_
         refine AWp_block ?_
         refine zu2 ?_
         rw [vcells_eq x]
         refine zv4 ?_
         refine AWp_drawL #[0, 0, 2, 0, 14, 30, 63, 127] Tryz.mixed (by decide +kernel) (by decide +kernel) ?_
         refine zd2 ?_
         refine yP rfl rfl (zc rfl (itoa_c i _ (by omega) (by omega))) (trivial) ?_
         refine zp1 ?_
         refine zd1 ?_
         refine yA rfl rfl (fun _ => op_buildSlice [[_, _, _, _, _, _, _, _, _]] rfl Tryz.underlying26 Tryz.sizeOf122 Tryz.zeroValue122 rfl (by decide) (by decide) rfl rfl rfl rfl rfl) ?_
         refine yE rfl rfl (op_appendArrT rfl 1 (sz := 9) (m := 1) (len := i) (cs := _) rfl (.inr ⟨_, rfl⟩) Tryz.underlying26 Tryz.underlying26 Tryz.type122 rfl rfl rfl (by decide) rfl rfl (by rw [hfl, hkl]) rfl rfl rfl (by show (i + 1) * 128 ≤ _; omega) (by omega) rfl) (⟨.inl rfl, ⟨.inl rfl, trivial⟩⟩) (trivial) ?_
         refine zd1 ?_
         refine RP.nil rfl ?_
         refine AWp_regL ?_
         refine zv2 ?_
         refine ⟨i + 1, σ.length + 2, by omega, by omega, by simp, ⟨rfl, rfl, rfl, rfl, rfl, trivial⟩, closed_own 2 hcl ?_, ?_, ?_⟩
         ·simp [ownLt, AO.cells, AV.ltL, AV.lt, ofConst1, ltL_append, mflat_lt]
         ·simp [ltE, AV.lt]; (try omega)
         ·rw [kZ_take hx, mcells_snoc, mrow, vcells_eq x]; exact take_own 2
        ·(try rw [h9]); replace h9 := zcl h9
         have hie : i = v.l.length := by omega
         subst hie
         rw [List.take_length]
         refine AWp_exit ?_
         refine AWp_seq ?_
         first | refine AWp_freezeMO 5 1 _ _ [(e0, v)] rfl rfl (by rw [one_cells]; rfl) ?_ (by decide) | refine AWp_freezeMO 5 1 _ _ (kZ v.l) (kZ_len _) rfl rfl ?_ (by decide) | refine AWp_slotLe 5 rfl (AVle.nils false 9) ?_ (by decide) | skip
         refine AWp_regL ?_
         refine zv2 ?_
         refine zrt ?_
         rw [kidsM_10 v hk10]
         exact ResQ_1 rfl hcl (by simp [AV.lt]) (Ret_of rfl)
       ·(try rw [h8]); replace h8 := zcl h8
        refine AWp_regL ?_
        refine zv2 ?_
        refine AWp_cond rfl (fun h10 => ?_) (fun h10 => ?_)
        ·(try rw [h10]); replace h10 := zcl h10
         have hk10 : rk name = 10 := by rw [h10]; decide +kernel
         refine AWp_seq ?_
         refine AWp_ghostTO 5 9 1 rfl rfl ?_ (by decide)
         refine AWp_regL ?_
         refine zv4 ?_
         refine AWp_block ?_
         -- loop 2 LIVE 4:assign 5:assign 29:load 30:call 31:move
         refine AWp_loop (ι := Nat) (fun i => i ≤ v.l.length) (fun i => ⟨[], [(5, .arr (σ.length + 1) i 9 0 i), (29, .sl false 8 (lcells v.l)), (30, .int .i64 ((lcells v.l).length : Int)), (31, .int .i64 (i : Int))]⟩) (fun i => σ ++ [.box [.int .i64 v.kind, .bool v.b, .bool v.n.neg, .str v.n.digits, .int .i64 v.n.exp, .str v.s, .sl false 8 (lcells v.l), .sl false 9 (mcells v.m)], .arr 9 i (mcells (kZ (v.l.take i))).flatten]) (fun i => v.l.length - i) (0) (Nat.zero_le _) ?_ rfl (fun i hi => ?_)
         ·exact ⟨rfl, rfl, rfl, rfl, rfl, trivial⟩
         have hkl : (kZ (v.l.take i)).length = i := by rw [kZ_len, List.length_take]; omega
         have hfl := mflat_len (kZ (v.l.take i))
         refine zw1 ?_
         refine AWp_seq ?_
         refine AWp_cond rfl (fun h11 => ?_) (fun h11 => ?_)
         ·(try rw [h11]); replace h11 := zcl h11
          obtain ⟨x, hx⟩ : ∃ x, v.l[i]? = some x := ⟨_, List.getElem?_eq_getElem (show i < v.l.length by omega)⟩
          refine AWp_skip ?_
          refine AWp_seq ?_
          refine AWp_block ?_
          refine zu2 ?_
          rw [vcells_eq x]
          refine zv4 ?_
          refine AWp_drawL #[0, 0, 2, 0, 14, 30, 63, 127] Tryz.mixed (by decide +kernel) (by decide +kernel) ?_
          refine zd2 ?_
          refine yP rfl rfl (zc rfl (itoa_c i _ (by omega) (by omega))) (trivial) ?_
          refine zp1 ?_
          refine zd1 ?_
          refine yA rfl rfl (fun _ => op_buildSlice [[_, _, _, _, _, _, _, _, _]] rfl Tryz.underlying26 Tryz.sizeOf122 Tryz.zeroValue122 rfl (by decide) (by decide) rfl rfl rfl rfl rfl) ?_
          refine yE rfl rfl (op_appendArrT rfl 1 (sz := 9) (m := 1) (len := i) (cs := _) rfl (.inr ⟨_, rfl⟩) Tryz.underlying26 Tryz.underlying26 Tryz.type122 rfl rfl rfl (by decide) rfl rfl (by rw [hfl, hkl]) rfl rfl rfl (by show (i + 1) * 128 ≤ _; omega) (by omega) rfl) (⟨.inl rfl, ⟨.inl rfl, trivial⟩⟩) (trivial) ?_
          refine zd1 ?_
          refine RP.nil rfl ?_
          refine AWp_regL ?_
          refine zv2 ?_
          refine ⟨i + 1, σ.length + 2, by omega, by omega, by simp, ⟨rfl, rfl, rfl, rfl, rfl, trivial⟩, closed_own 2 hcl ?_, ?_, ?_⟩
          ·simp [ownLt, AO.cells, AV.ltL, AV.lt, ofConst1, ltL_append, mflat_lt]
          ·simp [ltE, AV.lt]; (try omega)
          ·rw [kZ_take hx, mcells_snoc, mrow, vcells_eq x]; exact take_own 2
         ·(try rw [h11]); replace h11 := zcl h11
          have hie : i = v.l.length := by omega
          subst hie
          rw [List.take_length]
          refine AWp_exit ?_
          refine AWp_seq ?_
          first | refine AWp_freezeMO 5 1 _ _ [(e0, v)] rfl rfl (by rw [one_cells]; rfl) ?_ (by decide) | refine AWp_freezeMO 5 1 _ _ (kZ v.l) (kZ_len _) rfl rfl ?_ (by decide) | refine AWp_slotLe 5 rfl (AVle.nils false 9) ?_ (by decide) | skip
          refine AWp_regL ?_
          refine zv2 ?_
          refine zrt ?_
          rw [kidsM_10 v hk10]
          exact ResQ_1 rfl hcl (by simp [AV.lt]) (Ret_of rfl)
        ·(try rw [h10]); replace h10 := zcl h10
         refine AWp_skip ?_
         refine AWp_seq ?_
         first | refine AWp_freezeMO 5 1 _ _ [(e0, v)] rfl rfl (by rw [one_cells]; rfl) ?_ (by decide) | refine AWp_freezeMO 5 1 _ _ (kZ v.l) (kZ_len _) rfl rfl ?_ (by decide) | refine AWp_slotLe 5 rfl (AVle.nils false 9) ?_ (by decide) | skip
         refine AWp_regL ?_
         refine zv2 ?_
         refine zrt ?_
         have hk8 : ¬ rk name = 8 := fun e => by have := rk_mem e (by decide); simp [kwL] at this; rcases this with h | h | h; exact h1 h; exact h2 h; exact h3 h
         rw [kidsM_nil v hk8 h4 h5 h6 h8 h10]
         exact ResQ_1 rfl hcl (by simp [AV.lt, AV.ltLL]) (Ret_of rfl)
end Lg
set_option maxRecDepth 100000
namespace Lg
open Go Go.Proofs Go.RowKit Go.Extern.Stop Go.Stop Go.Extern
theorem a9_valueOf27 (t : Addr) (w : World) : (ReflectliteValue.unpack (.iface 127 (.pointer (some t)))).run Tryz.prog w
    = .ok (.agg #[.pointer (some ⟨9, 127, none⟩), .pointer (some ⟨w.heap.size, 0, none⟩), .int .u64 150]) (w.alloc (.cells #[.pointer (some t)] 127)) := by kernel_rfl
theorem a9_type27 (a : Addr) (w : World) : (ReflectliteValue.methodAny (ReflectliteValue.valueError "reflectlite.Value.Type" 0) (fun t _ _ _ => ReflectliteType.toType t) #[.agg #[.pointer (some ⟨9, 127, none⟩), .pointer (some a), .int .u64 150]]).run Tryz.prog w
    = .ok (.iface 203 (.agg #[.pointer (some ⟨9, 127, none⟩)])) w := by kernel_rfl
theorem a9_methodKind (h : Value) (w : World) : (Go.method 430 203 (.agg #[h]) "Kind").run Tryz.prog w = .ok (271, h) w := by kernel_rfl
theorem a9_kind27 (w : World) : ((ReflectliteType.abiMethod fun t => (fun a : Nat => Value.int IntKind.u8 (a : Int)) <$> Rtype.kind t) #[.pointer (some ⟨9, 127, none⟩)]).run Tryz.prog w = .ok (.int .u8 22) w := by kernel_rfl
theorem a9_kind25 (w : World) : ((ReflectliteType.abiMethod fun t => (fun a : Nat => Value.int IntKind.u8 (a : Int)) <$> Rtype.kind t) #[.pointer (some ⟨9, 95, none⟩)]).run Tryz.prog w = .ok (.int .u8 2) w := by kernel_rfl

theorem rlm (z : Sem Value) (f : TypeId → Addr → Nat → Nat → Sem Value) (v : Value) :
    ReflectliteValue.method z f #[v] = (do match ← ReflectliteValue.parts v with | none => z | some (t, a, fl) => f t a fl (fl % 32)) := rfl
theorem a9_parts27 (a : Addr) (w : World) : (ReflectliteValue.parts (.agg #[.pointer (some ⟨9, 127, none⟩), .pointer (some a), .int .u64 150])).run Tryz.prog w = .ok (some (127, a, 150)) w := by kernel_rfl
theorem a9_isNil27 (a p : Addr) (W : World) (ha : W.cell? a = some (.pointer (some p))) :
    (ReflectliteValue.method (ReflectliteValue.valueError "reflectlite.Value.IsNil" 0) ReflectliteValue.isNil #[.agg #[.pointer (some ⟨9, 127, none⟩), .pointer (some a), .int .u64 150]]).run Tryz.prog W = .ok (.bool false) W := by
  rw [rlm]
  simp only [Sem.run_bind, a9_parts27, Result.andThen]
  simp [ReflectliteValue.isNil, loadVar, isAgg, underlying, Tryz.underlying127, ha, Result.andThen]

theorem a9_methodElem (h : Value) (w : World) : (Go.method 430 203 (.agg #[h]) "Elem").run Tryz.prog w = .ok (285, .agg #[h]) w := by kernel_rfl
theorem a9_methodImplements (h : Value) (w : World) : (Go.method 430 203 (.agg #[h]) "Implements").run Tryz.prog w = .ok (286, .agg #[h]) w := by kernel_rfl
theorem a9_methodAssignableTo (h : Value) (w : World) : (Go.method 430 203 (.agg #[h]) "AssignableTo").run Tryz.prog w = .ok (283, .agg #[h]) w := by kernel_rfl
theorem a9_elem27 (w : World) : (ReflectliteType.method ReflectliteType.elem #[.agg #[.pointer (some ⟨9, 127, none⟩)]]).run Tryz.prog w = .ok (.iface 203 (.agg #[.pointer (some ⟨9, 95, none⟩)])) w := by kernel_rfl
theorem a9_implements25 (w : World) : (ReflectliteType.relation "Implements" ReflectliteType.implements_ #[.agg #[.pointer (some ⟨9, 95, none⟩)], .iface 203 (.agg #[.pointer (some ⟨9, 33, none⟩)])]).run Tryz.prog w = .ok (.bool true) w := by kernel_rfl
theorem a9_typeOf25 (v : Value) (w : World) : (ReflectliteType.typeOf #[.iface 95 v]).run Tryz.prog w = .ok (.iface 203 (.agg #[.pointer (some ⟨9, 95, none⟩)])) w := by kernel_rfl
theorem a9_assignable25 (w : World) : (ReflectliteType.relation "AssignableTo" ReflectliteType.assignableTo #[.agg #[.pointer (some ⟨9, 95, none⟩)], .iface 203 (.agg #[.pointer (some ⟨9, 95, none⟩)])]).run Tryz.prog w = .ok (.bool true) w := by kernel_rfl
theorem a9_valueOf25 (e : Int) (w : World) : (ReflectliteValue.unpack (.iface 95 (.int .i64 e))).run Tryz.prog w
    = .ok (.agg #[.pointer (some ⟨9, 95, none⟩), .pointer (some ⟨w.heap.size, 0, none⟩), .int .u64 130]) (w.alloc (.cells #[.int .i64 e] 95)) := by kernel_rfl

theorem a9_elemOf27 (w : World) : (Rtype.elem? 127).run Tryz.prog w = .ok (some 95) w := by kernel_rfl
theorem a9_mk25 (p : Addr) (w : World) : (ReflectliteValue.mk 95 p ReflectliteValue.flagAddr).run Tryz.prog w = .ok (.agg #[.pointer (some ⟨9, 95, none⟩), .pointer (some p), .int .u64 386]) w := by kernel_rfl
theorem a9_elemV27 (a p : Addr) (W : World) (ha : W.cell? a = some (.pointer (some p))) :
    (ReflectliteValue.method (ReflectliteValue.valueError "reflectlite.Value.Elem" 0) ReflectliteValue.elem #[.agg #[.pointer (some ⟨9, 127, none⟩), .pointer (some a), .int .u64 150]]).run Tryz.prog W
      = .ok (.agg #[.pointer (some ⟨9, 95, none⟩), .pointer (some p), .int .u64 386]) W := by
  rw [rlm]
  simp only [Sem.run_bind, a9_parts27, Result.andThen]
  simp [ReflectliteValue.elem, loadVar, isAgg, underlying, Tryz.underlying127, ha, Result.andThen, a9_elemOf27, a9_mk25]
theorem rls (v x : Value) : ReflectliteValue.set #[v, x] = (do
    let (some (dst, a, fl), some (src, b, _)) := (← ReflectliteValue.parts v, ← ReflectliteValue.parts x)
      | unsupported (.noEntry "extern/(internal/reflectlite.Value).Set.zeroValue")
    if fl / ReflectliteValue.flagAddr % 2 == 0 then unsupported (.noEntry "extern/(internal/reflectlite.Value).Set.unaddressable")
    let val ← loadVar src b
    if ← Rtype.directlyAssignable dst src then storeVar dst a val
    else if ← Rtype.implements dst src then
      if (← Rtype.kind src) == 20 then
        match val with
        | .nilIface => unsupported (.noEntry "extern/reflectlite: a nil value of one interface type handed on as a value of another")
        | _ => storeVar dst a val
      else storeVar dst a (.iface src val)
    else panicString ("reflectlite.Set: value of type " ++ (← Rtype.spelt src) ++ " is not assignable to type " ++ (← Rtype.spelt dst))
    pure (.tuple #[])) := rfl
theorem a9_parts25a (a : Addr) (w : World) : (ReflectliteValue.parts (.agg #[.pointer (some ⟨9, 95, none⟩), .pointer (some a), .int .u64 386])).run Tryz.prog w = .ok (some (95, a, 386)) w := by kernel_rfl
theorem a9_parts25 (a : Addr) (w : World) : (ReflectliteValue.parts (.agg #[.pointer (some ⟨9, 95, none⟩), .pointer (some a), .int .u64 130])).run Tryz.prog w = .ok (some (95, a, 130)) w := by kernel_rfl
theorem a9_direct25 (w : World) : (Rtype.directlyAssignable 95 95).run Tryz.prog w = .ok true w := by kernel_rfl
theorem a9_set25 (ta b : Addr) (e : Int) (old : Value) (W : World) (hb : W.cell? b = some (.int .i64 e)) (ht : W.cell? ta = some old) (hf : W.frozen? ta = false) :
    (ReflectliteValue.set #[.agg #[.pointer (some ⟨9, 95, none⟩), .pointer (some ta), .int .u64 386], .agg #[.pointer (some ⟨9, 95, none⟩), .pointer (some b), .int .u64 130]]).run Tryz.prog W
      = .ok (.tuple #[]) (W.setCell ta (.int .i64 e)) := by
  rw [rls]
  simp only [Sem.run_bind, a9_parts25a, a9_parts25, Result.andThen]
  simp [ReflectliteValue.flagAddr, loadVar, isAgg, underlying, Tryz.underlying95, hb, Result.andThen, a9_direct25, storeVar, Value.cells, storeCells, Addr.add]
  rw [run_store Tryz.prog W ta _ _ (by rfl)]
  simp [ht, hf]

set_option maxHeartbeats 4000000 in
theorem as_hit (e : Int) (t : Addr) (old : Value) (w : World) (hg : w.cell? ⟨0, 0, none⟩ = some (.iface 203 (.agg #[.pointer (some ⟨9, 33, none⟩)]))) (ht0 : w.cell? t = some old) (hf0 : w.frozen? t = false) :
    Calls Tryz.prog 51 #[.iface 95 (.int .i64 e), .iface 127 (.pointer (some t))] w fun ev w' => ev = .returned (.bool true) ∧ w' = ((((w.alloc (.cells #[.pointer (some t)] 127)).alloc (.cells #[.pointer (some ⟨9, 127, none⟩), .pointer (some ⟨w.heap.size, 0, none⟩), .int .u64 150] 166)).alloc (.cells #[.pointer (some ⟨9, 127, none⟩), .pointer (some ⟨w.heap.size, 0, none⟩), .int .u64 150] 166)).alloc (.cells #[.int .i64 e] 95)).setCell t (.int .i64 e) := by
  have h6 := @run_callFunc_extern Tryz.prog 93 _ (fun args => ReflectliteValue.unpack (args.getD 0 (.tuple #[]))) Tryz.func93 (by kernel_rfl) (by kernel_rfl) (by kernel_rfl) (by kernel_rfl)
  have h7 := @run_callFunc_extern Tryz.prog 94 _ (ReflectliteValue.methodAny (ReflectliteValue.valueError "reflectlite.Value.Type" 0) (fun t _ _ _ => ReflectliteType.toType t)) Tryz.func94 (by kernel_rfl) (by kernel_rfl) (by kernel_rfl) (by kernel_rfl)
  have h8 := @run_callFunc_extern Tryz.prog 95 _ (ReflectliteValue.method (ReflectliteValue.valueError "reflectlite.Value.IsNil" 0) ReflectliteValue.isNil) Tryz.func95 (by kernel_rfl) (by kernel_rfl) (by kernel_rfl) (by kernel_rfl)
  have h27 := @run_callFunc_extern Tryz.prog 271 _ (ReflectliteType.abiMethod fun t => do pure (.int .u8 (← Rtype.kind t))) Tryz.func271 (by kernel_rfl) (by kernel_rfl) (by kernel_rfl) (by kernel_rfl)
  have h37 := @run_callFunc_extern Tryz.prog 285 _ (ReflectliteType.method ReflectliteType.elem) Tryz.func285 (by kernel_rfl) (by kernel_rfl) (by kernel_rfl) (by kernel_rfl)
  have h38 := @run_callFunc_extern Tryz.prog 286 _ (ReflectliteType.relation "Implements" ReflectliteType.implements_) Tryz.func286 (by kernel_rfl) (by kernel_rfl) (by kernel_rfl) (by kernel_rfl)
  have h10 := @run_callFunc_extern Tryz.prog 139 _ ReflectliteType.typeOf Tryz.func139 (by kernel_rfl) (by kernel_rfl) (by kernel_rfl) (by kernel_rfl)
  have h35 := @run_callFunc_extern Tryz.prog 283 _ (ReflectliteType.relation "AssignableTo" ReflectliteType.assignableTo) Tryz.func283 (by kernel_rfl) (by kernel_rfl) (by kernel_rfl) (by kernel_rfl)
  have h11 := @run_callFunc_extern Tryz.prog 140 _ (ReflectliteValue.method (ReflectliteValue.valueError "reflectlite.Value.Elem" 0) ReflectliteValue.elem) Tryz.func140 (by kernel_rfl) (by kernel_rfl) (by kernel_rfl) (by kernel_rfl)
  have h12 := @run_callFunc_extern Tryz.prog 141 _ ReflectliteValue.set Tryz.func141 (by kernel_rfl) (by kernel_rfl) (by kernel_rfl) (by kernel_rfl)
  have tO := a9_typeOf25
  have mA := a9_methodAssignableTo
  have a25 := a9_assignable25
  have v25 := a9_valueOf25
  have f6 := a9_valueOf27
  have f7 := a9_type27
  have mK := a9_methodKind
  have mE := a9_methodElem
  have mI := a9_methodImplements
  have k27 := a9_kind27
  have k25 := a9_kind25
  have e27 := a9_elem27
  have i25 := a9_implements25
  have n8 := a9_isNil27 ⟨w.heap.size, 0, none⟩ t ((w.alloc (.cells #[.pointer (some t)] 127)).alloc (.cells #[.pointer (some ⟨9, 127, none⟩), .pointer (some ⟨w.heap.size, 0, none⟩), .int .u64 150] 166)) (by simp)
  have hlt : 0 < w.heap.size := by
    rcases Nat.eq_zero_or_pos w.heap.size with h0 | h
    · simp [World.cell?, h0] at hg
    · exact h
  have hg2 : ((w.alloc (.cells #[.pointer (some t)] 127)).alloc (.cells #[.pointer (some ⟨9, 127, none⟩), .pointer (some ⟨w.heap.size, 0, none⟩), .int .u64 150] 166)).cell? ⟨0, 0, none⟩ = some (.iface 203 (.agg #[.pointer (some ⟨9, 33, none⟩)])) := by
    rw [World.cell?_alloc_lt _ _ ⟨0, 0, none⟩ (by simp), World.cell?_alloc_lt _ _ ⟨0, 0, none⟩ hlt]; exact hg
  have htl : t.block < w.heap.size := by
    rcases Nat.lt_or_ge t.block w.heap.size with h | h
    · exact h
    · simp [World.cell?, Array.getElem?_eq_none h] at ht0
  have el := a9_elemV27 ⟨w.heap.size, 0, none⟩ t (((w.alloc (.cells #[.pointer (some t)] 127)).alloc (.cells #[.pointer (some ⟨9, 127, none⟩), .pointer (some ⟨w.heap.size, 0, none⟩), .int .u64 150] 166)).alloc (.cells #[.pointer (some ⟨9, 127, none⟩), .pointer (some ⟨w.heap.size, 0, none⟩), .int .u64 150] 166)) (by rw [World.cell?_alloc_lt _ _ ⟨w.heap.size, 0, none⟩ (by simp; omega)]; simp)
  have st := a9_set25 t ⟨w.heap.size + 1 + 1 + 1, 0, none⟩ e old ((((w.alloc (.cells #[.pointer (some t)] 127)).alloc (.cells #[.pointer (some ⟨9, 127, none⟩), .pointer (some ⟨w.heap.size, 0, none⟩), .int .u64 150] 166)).alloc (.cells #[.pointer (some ⟨9, 127, none⟩), .pointer (some ⟨w.heap.size, 0, none⟩), .int .u64 150] 166)).alloc (.cells #[.int .i64 e] 95))
    (by rw [World.cell?_alloc_at _ _ _ _ (by simp)]; rfl)
    (by rw [World.cell?_alloc_lt _ _ t (by simp; omega), World.cell?_alloc_lt _ _ t (by simp; omega), World.cell?_alloc_lt _ _ t (by simp; omega), World.cell?_alloc_lt _ _ t htl]; exact ht0)
    (by rw [World.frozen?_alloc_old _ _ t (by simp; omega), World.frozen?_alloc_old _ _ t (by simp; omega), World.frozen?_alloc_old _ _ t (by simp; omega), World.frozen?_alloc_old _ _ t (Nat.ne_of_lt htl)]; exact hf0)
  go_enter Tryz.func51, Tryz.ntmps51
  go_wp2
  refine wp_loop_rounds 1 ?_
  rw [rounds_succ]
  go_wp2
  go_ret
  exact ⟨rfl, rfl⟩
end Lg
namespace Lg
open Go Go.Proofs Go.RowKit
class ET [GLay] : Prop where
  cell : ∀ w : World, Laid w → w.cell? ⟨0, 0, none⟩ = some (.iface 203 (.agg #[.pointer (some ⟨9, 33, none⟩)]))
theorem ET.of [g : GLay] {W : World} (hc : W.cell? ⟨0, 0, none⟩ = some (.iface 203 (.agg #[.pointer (some ⟨9, 33, none⟩)]))) (hg : ∀ b, g.f b = W.heap[b]?) : ET := ⟨fun w hl => by
  cases h : W.heap[0]? with
  | none => simp [World.cell?, h] at hc
  | some ob =>
    have h1 := hl 0 ob ((hg 0).trans h)
    unfold World.cell? at hc ⊢
    simp only at hc ⊢
    rw [h1]; rw [h] at hc; exact hc⟩
theorem setCell_row {w : World} {b : Nat} {old v : Value} {T : TypeId} (h : w.heap[b]? = some (.cells #[old] T (0, 0))) : w.setCell ⟨b, 0, none⟩ v = w.setRow b #[v] := by
  unfold World.setCell World.setRow
  congr 1
  apply Array.ext_getElem?
  intro i
  rw [Array.getElem?_modify, Array.getElem?_modify]
  by_cases e : b = i
  · subst e; rw [if_pos rfl, if_pos rfl, h]; rfl
  · rw [if_neg e, if_neg e]
variable [GLay] [ET]
theorem as_c (k old : Int) (p : Nat) (σ : List AO) (hp : σ[p]? = some (.box [.int .i64 old])) : ACalls Tryz.prog 51 [.iface 95 (.int .i64 k), .iface 127 (.ptr p 0)] σ (Ret (.bool true) (σ.set p (.box [.int .i64 k]))) := fun s cargs hs g hv => by
  subst hs
  obtain ⟨c1, r1, rfl, h1, hv2⟩ := hv.inv_cons
  obtain ⟨c2, r2, rfl, h2, hv3⟩ := hv2.inv_cons
  obtain rfl := hv3.inv_nil
  obtain ⟨x1, rfl, hx1⟩ := h1.inv_iface
  obtain ⟨x2, rfl, hx2⟩ := h2.inv_iface
  obtain rfl := hx1.inv_int
  obtain rfl := hx2.inv_ptr
  have hlive : s.live p := by unfold CS.live; rw [hp]; trivial
  obtain ⟨hnok, vs, T, hb, hpw⟩ := g.obj p _ hp
  obtain ⟨v0, vr, rfl, hv0, hvr⟩ := PW.inv_cons hpw
  obtain rfl := PW.inv_nil hvr
  obtain rfl := hv0.inv_int
  have hlt := (g.live_lt hlive).1
  have hc := ET.cell s.w g.laid
  have hcell : s.w.cell? ⟨(s.μ p).b, 0, none⟩ = some (.int .i64 old) := by unfold World.cell?; simp only; rw [hb]; rfl
  have hfz : s.w.frozen? ⟨(s.μ p).b, 0, none⟩ = false := by unfold World.frozen?; simp only; rw [hb]; rfl
  refine (as_hit k ⟨(s.μ p).b, 0, none⟩ (.int .i64 old) s.w hc hcell hfz).mono fun ed w' hh => ?_
  obtain ⟨rfl, rfl⟩ := hh
  obtain ⟨w4, hw4⟩ : ∃ w4 : World, w4 = (((s.w.alloc (.cells #[.pointer (some ⟨(s.μ p).b, 0, none⟩)] 127)).alloc (.cells #[.pointer (some ⟨9, 127, none⟩), .pointer (some ⟨s.w.heap.size, 0, none⟩), .int .u64 150] 166)).alloc (.cells #[.pointer (some ⟨9, 127, none⟩), .pointer (some ⟨s.w.heap.size, 0, none⟩), .int .u64 150] 166)).alloc (.cells #[.int .i64 k] 95) := ⟨_, rfl⟩
  rw [← hw4]
  have hbel : Below s.w.heap.size s.w w4 := by
    rw [hw4]
    exact ((((Below.refl s.w.heap.size s.w).alloc (Nat.le_refl _) _).alloc (by simp) _).alloc (by simp; omega) _).alloc (by simp; omega) _
  obtain ⟨g1, x1⟩ := g.grow hbel
  have hb4 : w4.heap[(s.μ p).b]? = some (.cells #[.int .i64 old] T (0, 0)) := (hbel.block _ hlt).trans hb
  obtain ⟨s', e1, e2, g', x', _⟩ := g1.setObj (s := { s with w := w4 }) (p := p) (o := .box [.int .i64 old]) (o' := .box [.int .i64 k]) hp (by unfold CS.live; rw [show ({ s with w := w4 } : CS).σ[p]? = _ from hp]; trivial) (.box _ _ rfl) trivial (vs := [.int .i64 k]) (PW.cons (.int _ _) PW.nil)
  refine ⟨s', ?_, g', x1.trans x', _, .bool _, rfl, e1⟩
  rw [e2, setCell_row hb4]
end Lg
namespace Lg
open Go
section
variable {σ : List AO} {p q : Nat} {x y : AO}
theorem s2_p (h : p ≠ q) (hp : p < σ.length) : ((σ.set p x).set q y)[p]? = some x := by
  rw [List.getElem?_set, if_neg (Ne.symm h), List.getElem?_set, if_pos rfl, if_pos hp]
theorem s2_q (hq : q < σ.length) : ((σ.set p x).set q y)[q]? = some y := by
  rw [List.getElem?_set, if_pos rfl, if_pos (by simpa using hq)]
theorem s2_same (hp : σ[p]? = some x) (hq : σ[q]? = some y) : (σ.set p x).set q y = σ := by
  apply List.ext_getElem?
  intro k
  by_cases h1 : q = k
  · subst h1; rw [s2_q (List.getElem?_eq_some_iff.1 hq).1, hq]
  · rw [List.getElem?_set, if_neg h1]
    by_cases h2 : p = k
    · subst h2; rw [List.getElem?_set, if_pos rfl, if_pos (List.getElem?_eq_some_iff.1 hp).1, hp]
    · rw [List.getElem?_set, if_neg h2]
end
section
variable [GLay]
variable {σ : List AO} {p q : Nat} {x y : AO}
end
section
variable [GLay]
structure SP (v : JV) (id deep frm nw lst : Int) (M : List (Int × AV)) (p q : Nat) (σ : List AO) : Prop where
  hp : σ[p]? = some (.box [.mapv q, .int .i64 frm, .int .i64 nw, .int .i64 lst])
  hq : σ[q]? = some (.map (imap M))
  key : ∀ a ∈ M, a.1 < id
  ml : ∀ k, ∀ a ∈ M, a.2.lt k
  len : (M.length : Int) + jsize v ≤ 20000
  d0 : 0 ≤ deep
  dd : deep + jdepth v ≤ 40
  i0 : 0 ≤ id
  ib : id + jsize v ≤ 1000000000
  f : frm ≤ id
  n0 : 0 ≤ nw
  nb : nw + jsize v ≤ 1000000
theorem SP.ne {v : JV} {id deep frm nw lst : Int} {M : List (Int × AV)} {p q : Nat} {σ : List AO} (h : SP v id deep frm nw lst M p q σ) : p ≠ q := fun e => by
  have h1 := h.hp; have h2 := h.hq
  rw [e, h2] at h1; cases h1
theorem SP.none {v : JV} {id deep frm nw lst : Int} {M : List (Int × AV)} {p q : Nat} {σ : List AO} (h : SP v id deep frm nw lst M p q σ) (K : List JV) : iget (M ++ seenL K (id + 1)) id = none :=
  iget_none fun a ha e => by
    rcases List.mem_append.1 ha with ha | ha
    · have := h.key a ha; omega
    · have := seenL_key _ _ a ha; omega
theorem SP.lt {v : JV} {id deep frm nw lst : Int} {M : List (Int × AV)} {p q : Nat} {σ : List AO} (h : SP v id deep frm nw lst M p q σ) (k : Nat) (K : List JV) : AV.ltL k (mflat (imap (M ++ seenL K (id + 1)))) :=
  imap_lt k _ fun a ha => by
    rcases List.mem_append.1 ha with ha | ha
    · exact h.ml k a ha
    · exact seenL_lt k _ _ a ha
end
end Lg
namespace Lg
open Go Go.RowKit
def S2 (σ : List AO) (p q : Nat) (X Y : AO) : List AO := (σ.set p X).set q Y
def S3 (σ : List AO) (p q r : Nat) (X Y Z : AO) : List AO := ((σ.set p X).set q Y).set r Z
class LenOf (τ : List AO) (σ : outParam (List AO)) : Prop where h : τ.length = σ.length
instance {σ : List AO} {p q : Nat} {X Y : AO} : LenOf (S2 σ p q X Y) σ := ⟨by simp [S2]⟩
instance {σ : List AO} {p q r : Nat} {X Y Z : AO} : LenOf (S3 σ p q r X Y Z) σ := ⟨by simp [S3]⟩
section
variable [GLay]
variable {σ l : List AO} {p q r : Nat} {X Y Z X' Y' Z' : AO}
theorem S2_len : (S2 σ p q X Y).length = σ.length := LenOf.h
theorem S3_len : (S3 σ p q r X Y Z).length = σ.length := LenOf.h
theorem S2_p (h : p ≠ q) (hp : p < σ.length) : (S2 σ p q X Y)[p]? = some X := s2_p h hp
theorem S2_q (hq : q < σ.length) : (S2 σ p q X Y)[q]? = some Y := s2_q hq
theorem S2_pA (h : p ≠ q) (hp : p < σ.length) : (S2 σ p q X Y ++ l)[p]? = some X := by rw [List.getElem?_append_left (by rw [S2_len]; exact hp)]; exact S2_p h hp
theorem S2_qA (hq : q < σ.length) : (S2 σ p q X Y ++ l)[q]? = some Y := by rw [List.getElem?_append_left (by rw [S2_len]; exact hq)]; exact S2_q hq
theorem S2_same (hp : σ[p]? = some X) (hq : σ[q]? = some Y) : S2 σ p q X Y ++ [] = σ := by rw [List.append_nil]; exact s2_same hp hq
theorem S2_setp (h : p ≠ q) (hp : p < σ.length) : (S2 σ p q X Y ++ l).set p X' = S2 σ p q X' Y ++ l := by
  rw [List.set_append_left _ _ (by rw [S2_len]; exact hp)]; unfold S2; rw [List.set_comm _ _ (Ne.symm h), List.set_set]
theorem S2_setq (hq : q < σ.length) : (S2 σ p q X Y ++ l).set q Y' = S2 σ p q X Y' ++ l := by
  rw [List.set_append_left _ _ (by rw [S2_len]; exact hq)]; unfold S2; rw [List.set_set]
theorem S3_p (h : p ≠ q) (h2 : p ≠ r) (hp : p < σ.length) : (S3 σ p q r X Y Z)[p]? = some X := by
  show ((S2 σ p q X Y).set r Z)[p]? = _
  rw [List.getElem?_set, if_neg (Ne.symm h2)]; exact S2_p h hp
theorem S3_q (h : q ≠ r) (hq : q < σ.length) : (S3 σ p q r X Y Z)[q]? = some Y := by
  show ((S2 σ p q X Y).set r Z)[q]? = _
  rw [List.getElem?_set, if_neg (Ne.symm h)]; exact S2_q hq
theorem S3_r (hr : r < σ.length) : (S3 σ p q r X Y Z)[r]? = some Z := by
  show ((S2 σ p q X Y).set r Z)[r]? = _
  rw [List.getElem?_set, if_pos rfl, if_pos (by rw [S2_len]; exact hr)]
theorem S3_pA (h : p ≠ q) (h2 : p ≠ r) (hp : p < σ.length) : (S3 σ p q r X Y Z ++ l)[p]? = some X := by rw [List.getElem?_append_left (by rw [S3_len]; exact hp)]; exact S3_p h h2 hp
theorem S3_qA (h : q ≠ r) (hq : q < σ.length) : (S3 σ p q r X Y Z ++ l)[q]? = some Y := by rw [List.getElem?_append_left (by rw [S3_len]; exact hq)]; exact S3_q h hq
theorem S3_rA (hr : r < σ.length) : (S3 σ p q r X Y Z ++ l)[r]? = some Z := by rw [List.getElem?_append_left (by rw [S3_len]; exact hr)]; exact S3_r hr
theorem S3_same (hp : σ[p]? = some X) (hq : σ[q]? = some Y) (hr : σ[r]? = some Z) : S3 σ p q r X Y Z ++ [] = σ := by
  rw [List.append_nil]
  show ((σ.set p X).set q Y).set r Z = σ
  rw [s2_same hp hq, set_same hr]
theorem S3_setp (h : p ≠ q) (h2 : p ≠ r) (hp : p < σ.length) : (S3 σ p q r X Y Z ++ l).set p X' = S3 σ p q r X' Y Z ++ l := by
  rw [List.set_append_left _ _ (by rw [S3_len]; exact hp)]; unfold S3; rw [List.set_comm _ _ (Ne.symm h2), List.set_comm _ _ (Ne.symm h), List.set_set]
theorem S3_setq (h : q ≠ r) (hq : q < σ.length) : (S3 σ p q r X Y Z ++ l).set q Y' = S3 σ p q r X Y' Z ++ l := by
  rw [List.set_append_left _ _ (by rw [S3_len]; exact hq)]; unfold S3; rw [List.set_comm _ _ (Ne.symm h), List.set_set]
theorem S3_setr (hr : r < σ.length) : (S3 σ p q r X Y Z ++ l).set r Z' = S3 σ p q r X Y Z' ++ l := by
  rw [List.set_append_left _ _ (by rw [S3_len]; exact hr)]; unfold S3; rw [List.set_set]
theorem S2_S3 (h : p ≠ q) (h2 : p ≠ r) (h3 : q ≠ r) (hp : p < σ.length) (hq : q < σ.length) : S2 (S3 σ p q r X Y Z ++ l) p q X' Y' = S3 σ p q r X' Y' Z ++ l := by
  show ((S3 σ p q r X Y Z ++ l).set p X').set q Y' = _
  rw [S3_setp h h2 hp, S3_setq h3 hq]
theorem S3_S2 (h : p ≠ q) (hp : p < σ.length) (hq : q < σ.length) (k : Nat) : S3 (S2 σ p q X Y ++ l) p q (σ.length + k) X' Y' Z = S2 σ p q X' Y' ++ l.set k Z := by
  show (((S2 σ p q X Y ++ l).set p X').set q Y').set (σ.length + k) Z = _
  rw [S2_setp h hp, S2_setq hq, List.set_append_right _ _ (by rw [S2_len]; omega), S2_len]
  congr 2; omega
theorem closed_S2 (hc : closed σ.length σ) (hX : AV.ltL σ.length X.cells) (hY : AV.ltL σ.length Y.cells) : closed σ.length (S2 σ p q X Y) := closed_set (closed_set hc hX) hY
theorem closed_S3 (hc : closed σ.length σ) (hX : AV.ltL σ.length X.cells) (hY : AV.ltL σ.length Y.cells) (hZ : AV.ltL σ.length Z.cells) : closed σ.length (S3 σ p q r X Y Z) := closed_set (closed_S2 hc hX hY) hZ
end
section
variable [GLay]
variable {τ σ l : List AO} [hτ : LenOf τ σ]
theorem get_ownP (k : Nat) : (τ ++ l)[σ.length + k]? = l[k]? := get_ownT hτ.h k
theorem set_ownP (k : Nat) (y : AO) : (τ ++ l).set (σ.length + k) y = τ ++ l.set k y := set_ownT hτ.h k y
theorem take_ownP (k : Nat) : (τ ++ l).take (σ.length + k) = τ ++ l.take k := by rw [← hτ.h]; exact take_own k
theorem take_oldP : (τ ++ l).take σ.length = τ := by rw [← hτ.h]; exact take_old
theorem closed_ownP (k : Nat) (h : closed σ.length τ) (hl : ownLt (σ.length + k) (l.take k)) : closed (σ.length + k) (τ ++ l) := by
  rw [← hτ.h] at h hl ⊢; exact closed_own k h hl
variable {P : Program} {N : Nat} {e : Env} {Q : QA} {o : Oper}
theorem closed_oldP (h : closed σ.length τ) : closed σ.length (τ ++ l) := closed_ownP 0 h (by rw [List.take_zero]; trivial)
theorem ldv_ownP {k off n : Nat} {cs r : List AV} (h : l[k]? = some (.box cs)) (hr : tk n (cs.drop off) = some r) : ldv (τ ++ l) n (.ptr (σ.length + k) off) = some r := ldv_ptr (by rw [get_ownP]; exact h) hr
theorem op_storeOP {T : TypeId} {a b : Operand} {n k off : Nat} {cs r : List AV} (ho : o.op = .store T a b) (hz : ∀ w, (Go.sizeOf T).run P w = Result.ok n w) (hn : (opv e b).cells.length = n)
    (h1 : ones (opv e b).cells = true) (hx : opv e a = .ptr (σ.length + k) off) (hl : l[k]? = some (.box cs)) (hr : spl off cs (opv e b).cells = some r) (hn0 : n ≠ 0) : AOp P (τ ++ l) e o .any (τ ++ l.set k (.box r)) := by
  have := op_storeP (P := P) (σ := τ ++ l) ho hz hn h1 hx (by rw [get_ownP]; exact hl) hr hn0
  rwa [set_ownP] at this
theorem op_boxP {T : TypeId} {a : Operand} {cs : List AV} (n : Nat) (hn : l.length = n) (ho : o.op = .box T a) (hx : (opv e a).cells = cs) (h1 : ones cs = true) : AOp P (τ ++ l) e o (.ptr (σ.length + n) 0) (τ ++ (l ++ [.box cs])) := by
  have := op_box (P := P) (σ := τ ++ l) ho hx h1
  rwa [List.length_append, hn, List.append_assoc, hτ.h] at this
theorem op_allocP {T : TypeId} {z : Value} {cs : List AV} (n : Nat) (hn : l.length = n) (ho : o.op = .alloc T) (hz : ∀ w, (zeroValue T).run P w = Result.ok z w) (hx : z.cells.toList.map ofConst1 = cs) : AOp P (τ ++ l) e o (.ptr (σ.length + n) 0) (τ ++ (l ++ [.box cs])) := by
  have := op_alloc (P := P) (σ := τ ++ l) (e := e) ho hz hx
  rwa [List.length_append, hn, List.append_assoc, hτ.h] at this
theorem AWp_ghostInP {c : Code} (k i sz n : Nat) (hn : l.length = n) {bs : List AV} (hq : l[k]? = some (.box bs)) (hi : bs[i]? = some .nils) (h : AWp P N c e (τ ++ (l ++ [AO.arr sz 0 []]).set k (.box (bs.set i (.arr (σ.length + n) 0 sz 0 0)))) Q) : AWp P N c e (τ ++ l) Q :=
  AWp_ghostIn (σ.length + k) i sz (by rw [get_ownP]; exact hq) hi (by
    rw [List.length_append, hn, List.append_assoc, set_ownP, hτ.h]; exact h)
theorem AWp_freezeInP {c : Code} (kq i kp gg sz len : Nat) {bs cs : List AV} (hq : l[kq]? = some (.box bs)) (hi : bs[i]? = some (.arr (σ.length + kp) gg sz 0 len)) (hσ : l[kp]? = some (.arr sz gg cs)) (es : List (List AV)) (hes : es.flatten = cs)
    (hel : ∀ r ∈ es, r.length = sz) (hlen : es.length = len) (hsz : sz ≠ 0) (k : AWp P N c e (τ ++ (l.set kp .dead).set kq (.box (bs.set i (.sl false sz es)))) Q) : AWp P N c e (τ ++ l) Q := by
  have hcl : cs.length = len * sz := by rw [← hes, flatten_len hel, hlen]
  refine AWp_freezeIn (σ.length + kq) i (σ.length + kp) gg sz 0 len (by rw [get_ownP]; exact hq) hi (by rw [get_ownP]; exact hσ) es ?_ hel hlen hsz ?_ (by rw [set_ownP, set_ownP]; exact k)
  · rw [Nat.zero_mul, List.drop_zero, ← hcl, List.take_length]; exact hes
  · rw [Nat.zero_add, hcl]; exact Nat.le_refl _
end
section
variable [GLay] {P : Program} {N : Nat} {σ : List AO} {e : Env} {Q : QA} {o : Oper}
theorem AWp_ghostInA {c : Code} (q i sz : Nat) {sz2 g2 : Nat} {bs : List AV} (hq : σ[q]? = some (.arr sz2 g2 bs)) (hi : bs[i]? = some .nils) (k : AWp P N c e ((σ ++ [AO.arr sz 0 []]).set q (.arr sz2 g2 (bs.set i (.arr σ.length 0 sz 0 0)))) Q) : AWp P N c e σ Q := fun s0 s a hs g x he => by
  subst hs
  have hb0 : bs ≠ [] := fun e => by subst e; cases hi
  have hrep := g.obj q _ hq
  have hne : (s.μ q).tot ≠ 0 := by
    rcases hrep with ⟨_, h⟩ | ⟨h, _⟩
    · exact absurd h hb0
    · exact h
  have hliveq : s.live q := by unfold CS.live; rw [hq]; exact hne
  obtain ⟨s1, e1, e2, g1, x1⟩ := g.ghost sz
  have hqlt : q < s.σ.length := (List.getElem?_eq_some_iff.1 hq).1
  have hq1 : s1.σ[q]? = some (.arr sz2 g2 bs) := by rw [e1, List.getElem?_append_left hqlt]; exact hq
  have hμ1 : s1.μ q = s.μ q := by
    obtain ⟨o', h1, _, h3⟩ := x1.objs q _ hq
    rw [hq1] at h1; cases h1
    exact h3 rfl
  have hlive1 : s1.live q := by unfold CS.live; rw [hq1]; show (s1.μ q).tot ≠ 0; rw [hμ1]; exact hne
  obtain ⟨_, vs, T, hb, hp⟩ := g1.rep hq1 hlive1
  obtain ⟨v, hv1, hv2⟩ := hp.2.2.2.get hi
  have hbl := hp.2.2.1
  have hv0 := hv2.inv_nils
  have hv' : V s1 (.arr s.σ.length 0 sz 0 0) v := by
    rw [hv0]; exact .arr _ _ _ _ _ _ rfl (.mk (cs := []) (by rw [e1]; simp) ⟨rfl, .inl ⟨none, rfl, rfl⟩⟩)
  have hset : ((vs.drop (s1.μ q).base).take bs.length).set i v = (vs.drop (s1.μ q).base).take bs.length := by
    obtain ⟨h1, h2⟩ := List.getElem?_eq_some_iff.1 hv1
    rw [← h2]; exact List.set_getElem_self h1
  have hnew : RepW s1 (s1.μ q) vs T (.arr sz2 g2 (bs.set i (.arr s.σ.length 0 sz 0 0))) := by
    refine ⟨hp.1, hp.2.1, by rw [List.length_set]; exact hbl, ?_⟩
    have := hp.2.2.2.set i hv'
    rw [hset] at this
    rw [List.length_set]; exact this
  obtain ⟨s2, f1, f2, g2', x2, _⟩ := g1.setObj hq1 hlive1 (o' := .arr sz2 g2 (bs.set i (.arr s.σ.length 0 sz 0 0))) (.arr _ _ _ _ _ (Nat.le_refl _) (fun _ => by simp)) rfl (hnew.any rfl)
  have hw : s2.w = s.w := by
    rw [f2, ← e2, setRow_self _ _ _ _ _ hb]
  have := k s0 s2 a (by rw [f1, e1]) g2' ((x.trans x1).trans x2) ((he.mono g x1).mono g1 x2)
  rwa [hw] at this
theorem op_storeElH {T : TypeId} {x y : Operand} {p g sz off i : Nat} {cs : List AV} {b : AV} (ho : o.op = .store T x y) (hz : ∀ w, (Go.sizeOf T).run P w = Result.ok 1 w) (hy : opO e y = some b) (hbc : b.cells = [b]) (h1 : ones [b] = true) (hx : opO e x = some (.pel p g off)) (hoff : off = i)
    (hl : σ[p]? = some (.arr sz g cs)) (hi : i < cs.length) : AOp P σ e o .any (σ.set p (.arr sz g (cs.set i b))) := by
  subst hoff
  have e1 := opO_eq hy
  exact op_store (P := P) (σ := σ) (e := e) (p := p) (O := .arr sz g (cs.set off b)) ho hz (by rw [e1, hbc]; rfl) (by rw [e1, hbc]; exact h1) (by
    rw [e1, hbc, opO_eq hx]
    simp only [stv, hl, if_true, spl_set _ _ _ hi, Option.map_some]) (by decide)
end
section
variable [GLay] {P : Program} {σ l : List AO} {p q r : Nat} {X Y Z : AO} {e : Env} {o : Oper}
theorem op_storeS2p {T : TypeId} {a b : Operand} {n off : Nat} {cs c2 : List AV} (hpq : p ≠ q) (hp : p < σ.length) (ho : o.op = .store T a b) (hz : ∀ w, (Go.sizeOf T).run P w = Result.ok n w) (hn : (opv e b).cells.length = n)
    (h1 : ones (opv e b).cells = true) (hx : opv e a = .ptr p off) (hr : spl off cs (opv e b).cells = some c2) (hn0 : n ≠ 0) : AOp P (S2 σ p q (.box cs) Y ++ l) e o .any (S2 σ p q (.box c2) Y ++ l) := by
  have := op_storeP (P := P) (σ := S2 σ p q (.box cs) Y ++ l) ho hz hn h1 hx (S2_pA hpq hp) hr hn0
  rwa [S2_setp hpq hp] at this
theorem op_appendS2q {a b : Operand} {t u E : TypeId} {i : TypeInfo} {z : Value} {d : TypeDesc} {sz m gg len : Nat} {cs cs0 : List AV} (hq : q < σ.length) (ho : o.op = .call { callee := .builtin .append, args := #[a, b], argTypes := #[t, u] })
    (hd : d = .string ∨ ∃ E', d = .slice E') (ht : P.underlying t = some (.slice E)) (hu : P.underlying u = some d) (hi : P.info? E = some i) (hz : i.zero = some z) (hsz : i.size = sz) (hzs : z.cells.size = sz) (hpos : sz ≠ 0)
    (hx : opv e a = .arr q gg sz 0 len) (hend : len * sz = cs0.length) (hy : srcv (S2 σ p q X (.arr sz gg cs0) ++ l) (opv e b) = some (cs, m)) (hys : szv (opv e b) sz) (h1 : ones cs = true)
    (hby : (len + m) * i.bytes ≤ 140737488355328) (h63 : len + m ≤ 9223372036854775807) (hlen : cs.length = m * sz) :
    AOp P (S2 σ p q X (.arr sz gg cs0) ++ l) e o (.arr q (gg + 1) sz 0 (len + m)) (S2 σ p q X (.arr sz (gg + 1) (cs0 ++ cs)) ++ l) := by
  have := op_appendArr (P := P) (σ := S2 σ p q X (.arr sz gg cs0) ++ l) ho hd ht hu hi hz hsz hzs hpos hx (S2_qA hq) (by rw [Nat.zero_add]; exact hend) hy hys h1 hby h63 hlen
  rw [Nat.zero_mul, List.drop_zero, S2_setq hq] at this
  exact this
theorem op_appendS3r {a b : Operand} {t u E : TypeId} {i : TypeInfo} {z : Value} {d : TypeDesc} {sz m gg len : Nat} {cs cs0 : List AV} (hr : r < σ.length) (ho : o.op = .call { callee := .builtin .append, args := #[a, b], argTypes := #[t, u] })
    (hd : d = .string ∨ ∃ E', d = .slice E') (ht : P.underlying t = some (.slice E)) (hu : P.underlying u = some d) (hi : P.info? E = some i) (hz : i.zero = some z) (hsz : i.size = sz) (hzs : z.cells.size = sz) (hpos : sz ≠ 0)
    (hx : opv e a = .arr r gg sz 0 len) (hend : len * sz = cs0.length) (hy : srcv (S3 σ p q r X Y (.arr sz gg cs0) ++ l) (opv e b) = some (cs, m)) (hys : szv (opv e b) sz) (h1 : ones cs = true)
    (hby : (len + m) * i.bytes ≤ 140737488355328) (h63 : len + m ≤ 9223372036854775807) (hlen : cs.length = m * sz) :
    AOp P (S3 σ p q r X Y (.arr sz gg cs0) ++ l) e o (.arr r (gg + 1) sz 0 (len + m)) (S3 σ p q r X Y (.arr sz (gg + 1) (cs0 ++ cs)) ++ l) := by
  have := op_appendArr (P := P) (σ := S3 σ p q r X Y (.arr sz gg cs0) ++ l) ho hd ht hu hi hz hsz hzs hpos hx (S3_rA hr) (by rw [Nat.zero_add]; exact hend) hy hys h1 hby h63 hlen
  rw [Nat.zero_mul, List.drop_zero, S3_setr hr] at this
  exact this
theorem op_storeS3q {T : TypeId} {x y : Operand} {g sz off i : Nat} {cs : List AV} {b : AV} (hqr : q ≠ r) (hq : q < σ.length) (ho : o.op = .store T x y) (hz : ∀ w, (Go.sizeOf T).run P w = Result.ok 1 w) (hy : opO e y = some b) (hbc : b.cells = [b]) (h1 : ones [b] = true) (hx : opO e x = some (.pel q g off)) (hoff : off = i)
    (hi : i < cs.length) : AOp P (S3 σ p q r X (.arr sz g cs) Z ++ l) e o .any (S3 σ p q r X (.arr sz g (cs.set i b)) Z ++ l) := by
  have := op_storeElH (P := P) (σ := S3 σ p q r X (.arr sz g cs) Z ++ l) ho hz hy hbc h1 hx hoff (S3_qA hqr hq) hi
  rwa [S3_setq hqr hq] at this
theorem AWp_ghostS2 {N : Nat} {Q : QA} {c : Code} (i sz n : Nat) {sz2 g2 : Nat} {bs : List AV} (hq : q < σ.length) (hn : l.length = n) (hi : bs[i]? = some .nils) (h : AWp P N c e (S2 σ p q X (.arr sz2 g2 (bs.set i (.arr (σ.length + n) 0 sz 0 0))) ++ (l ++ [AO.arr sz 0 []])) Q) : AWp P N c e (S2 σ p q X (.arr sz2 g2 bs) ++ l) Q :=
  AWp_ghostInA q i sz (S2_qA hq) hi (by
    rw [List.length_append, hn, List.append_assoc, S2_setq hq, S2_len]; exact h)
theorem AWp_freezeS2 {N : Nat} {Q : QA} {c : Code} (i kp gg sz len : Nat) {sz2 g2 : Nat} {bs cs : List AV} (hq : q < σ.length) (hi : bs[i]? = some (.arr (σ.length + kp) gg sz 0 len)) (hσ : l[kp]? = some (.arr sz gg cs)) (es : List (List AV)) (hes : es.flatten = cs)
    (hel : ∀ r ∈ es, r.length = sz) (hlen : es.length = len) (hsz : sz ≠ 0) (h : AWp P N c e (S2 σ p q X (.arr sz2 g2 (bs.set i (.sl false sz es))) ++ l.set kp .dead) Q) : AWp P N c e (S2 σ p q X (.arr sz2 g2 bs) ++ l) Q := by
  have hcl : cs.length = len * sz := by rw [← hes, flatten_len hel, hlen]
  refine AWp_freezeInA q i (σ.length + kp) gg sz 0 len (by omega) (S2_qA hq) hi (by rw [get_ownP]; exact hσ) es ?_ hel hlen hsz ?_ (by rw [set_ownP, S2_setq hq]; exact h)
  · rw [Nat.zero_mul, List.drop_zero, ← hcl, List.take_length]; exact hes
  · rw [Nat.zero_add, hcl]; exact Nat.le_refl _
end
section
variable [GLay] {P : Program} {f : FuncId} {args : List AV} {v : AV} {σ l : List AO} {p q r : Nat} {X Y Z X' Y' Z' : AO}
theorem callS3S2 (hpq : p ≠ q) (hp : p < σ.length) (hq : q < σ.length) (k : Nat) (h : ACalls P f args (S2 σ p q X Y ++ l) (Ret v (S3 (S2 σ p q X Y ++ l) p q (σ.length + k) X' Y' Z))) : ACalls P f args (S2 σ p q X Y ++ l) (Ret v (S2 σ p q X' Y' ++ l.set k Z)) := by
  rwa [S3_S2 hpq hp hq] at h
theorem callS2S3 (hpq : p ≠ q) (hpr : p ≠ r) (hqr : q ≠ r) (hp : p < σ.length) (hq : q < σ.length) (h : ACalls P f args (S3 σ p q r X Y Z ++ l) (Ret v (S2 (S3 σ p q r X Y Z ++ l) p q X' Y'))) : ACalls P f args (S3 σ p q r X Y Z ++ l) (Ret v (S3 σ p q r X' Y' Z ++ l)) := by
  rwa [S2_S3 hpq hpr hqr hp hq] at h
theorem callOP {τ : List AO} [LenOf τ σ] (k : Nat) {y : AO} (h : ACalls P f args (τ ++ l) (Ret v ((τ ++ l).set (σ.length + k) y))) : ACalls P f args (τ ++ l) (Ret v (τ ++ l.set k y)) := by
  rwa [set_ownP] at h
theorem ResQ_P {τ : List AO} [LenOf τ σ] {ts : List Nat} {el : List (Nat × AV)} {R : Out → List AO → Prop} (h : resA ts ⟨[], el⟩ = v) (hc : closed σ.length τ) (hv : v.lt σ.length) (hR : R (.ret v) τ) : ResQ σ.length ts R .ret ⟨[], el⟩ (τ ++ l) :=
  ResQ_K σ.length (Nat.le_refl _) h (closed_oldP hc) hv (by rw [take_oldP]; exact hR)
end
theorem closed_lenP [GLay] {τ σ l : List AO} [hτ : LenOf τ σ] (k : Nat) (hk : l.length = k) (h : closed σ.length τ) (hl : ownLt (σ.length + k) l) : closed (τ ++ l).length (τ ++ l) := by
  rw [List.length_append, hτ.h, hk]
  exact closed_ownP k h (by rw [← hk, List.take_length, hk]; exact hl)
theorem closed_S2k [GLay] {σ l : List AO} {p q : Nat} {X Y : AO} (k : Nat) (hp : p < σ.length) (hq : q < σ.length) (hc : closed σ.length σ) (hX : AV.ltL (σ.length + k) X.cells) (hY : AV.ltL (σ.length + k) Y.cells) (hl : ownLt (σ.length + k) (l.take k)) : closed (σ.length + k) (S2 σ p q X Y ++ l) := by
  have h := closed_set (p := q) (closed_set (p := p) (closed_own k hc hl) hX) hY
  rwa [List.set_append_left _ _ hp, List.set_append_left _ _ (by simpa using hq)] at h
theorem closed_S2H [GLay] {σ l : List AO} {p q : Nat} {X Y : AO} (k : Nat) (hk : l.length = k) (hp : p < σ.length) (hq : q < σ.length) (hc : closed σ.length σ) (hX : AV.ltL (σ.length + k) X.cells) (hY : AV.ltL (σ.length + k) Y.cells) (hl : ownLt (σ.length + k) l) : closed (S2 σ p q X Y ++ l).length (S2 σ p q X Y ++ l) := by
  rw [List.length_append, S2_len, hk]
  exact closed_S2k k hp hq hc hX hY (by rw [← hk, List.take_length, hk]; exact hl)
end Lg
set_option maxRecDepth 20000
set_option maxHeartbeats 4000000
namespace Lg
open Go Go.Proofs Go.RowKit
variable [GLay] [ML] [ET] [S10]
theorem pth_show (nm : ByteArray) (σ : List AO) (h : nm.size ≤ 1000000) : ACalls Tryz.prog 102 [.sl true 1 [[.str nm]]] σ (Ret (.str (pth nm)) σ) := by
  have hz : nm.data.toList.length = nm.size := Array.length_toList ..
  have h1 := pshw_c true [nm.data.toList] σ (by show 1 ≤ 1000; decide) (by intro x hx; rw [List.mem_singleton.1 hx]; omega)
  rw [show srow [nm.data.toList] = [[.str nm]] by simp [srow, ← ba_eta]] at h1
  exact h1
theorem as_cP {τ σ l : List AO} [LenOf τ σ] (k old : Int) (j : Nat) (hl : l[j]? = some (.box [.int .i64 old])) : ACalls Tryz.prog 51 [.iface 95 (.int .i64 k), .iface 127 (.ptr (σ.length + j) 0)] (τ ++ l) (Ret (.bool true) (τ ++ l.set j (.box [.int .i64 k]))) :=
  callOP j (as_c k old (σ.length + j) (τ ++ l) (by rw [get_ownP]; exact hl))
theorem op_neCerv {P : Program} {σ : List AO} {e : Env} {o : Oper} {T T' : TypeId} {x : Operand} {ms : Array (String × TypeId)} {k : Int} (ho : o.op = .binOp .neq T x (.const .nilIface) T') (hu : P.underlying T = some (.interface ms)) (hx : opO e x = some (cerv k)) : AOp P σ e o (.bool (decide (¬ k = 0))) σ := by
  unfold cerv at hx
  split at hx
  · rename_i h; rw [decide_eq_false (fun g => g h)]; exact op_neINil ho hu hx
  · rename_i h; rw [decide_eq_true h]; exact op_neIN ho hu hx
theorem cerv_n {k : Int} (h : ¬ k = 0) : cerv k = .iface 95 (.int .i64 k) := by unfold cerv; rw [if_neg h]
theorem skey_s (n : Nat) (ih : ∀ (v : JV) (path : ByteArray) (rows : List (List AV)) (N p q : Nat) (ext : List JNode) (code : Int) (pp : ByteArray) (σ : List AO), closed σ.length σ → σ[p]? = some (.box [.arr q (N) 4 0 (N)]) → σ[q]? = some (.arr 4 N rows.flatten) → rows.length = N → (∀ e ∈ rows, e.length = 4) → N ≤ 200 → jsize v ≤ n → jb v → jmay v → path.size + 4000010 * (jsize v).toNat ≤ 100000000000 → pnd (n) path v N = (ext, code, pp) → ACalls Tryz.prog 37 [.ptr p 0, .str path, .agg (vcells v)] σ (Ret (spE (code, pp)) (S2 σ p q (.box [.arr q (N + ext.length) 4 0 (N + ext.length)]) (.arr 4 (N + ext.length) (rows ++ noder ext).flatten)))) (nm : ByteArray) (x : JV) (path : ByteArray) (rows : List (List AV)) (N p q r a : Nat) (ks : List JKey) (hp4 : ByteArray) (ha hb : Bool) (kd : List JKid) (ext : List JNode) (code : Int) (pp : ByteArray) (σ : List AO) (hc0 : closed σ.length σ) (hσp : σ[p]? = some (.box [.arr q (N) 4 0 (N)])) (hσq : σ[q]? = some (.arr 4 N rows.flatten)) (hσr : σ[r]? = some (.arr 10 ks.length (keyr ks).flatten)) (hrl : rows.length = N) (hre : ∀ e ∈ rows, e.length = 4) (hat : rows[a]? = some (hd4 hp4 ha hb (.arr r ks.length 10 0 ks.length))) (hN : N ≤ 200) (hkn : ks.length ≤ 1000000) (hj : jsize x ≤ n) (hjb : jb x) (hjm : jmay x) (hnm : nm.size ≤ 1000000) (hps : path.size + 4000010 * (jsize x).toNat + 4000010 ≤ 100000000000) (hpk : pkey (pnd n) path nm x N = (kd, ext, code, pp)) : ACalls Tryz.prog 64 [.ptr p 0, .int .i64 (a : Int), .str path, .agg (.str nm :: vcells x)] σ (Ret (spE (code, pp)) (S3 σ p q r (.box [.arr q (N + ext.length) 4 0 (N + ext.length)]) (.arr 4 (N + ext.length) (rows.set a (hd4 hp4 ha hb (.arr r (kadd ks nm x kd code).length 10 0 (kadd ks nm x kd code).length)) ++ noder ext).flatten) (.arr 10 (kadd ks nm x kd code).length (keyr (kadd ks nm x kd code)).flatten))) := by
 refine ACalls_body Tryz.func64 rfl Tryz.ntmps64 (res1 Tryz.results64) (Nat.le_of_ble_eq_true rfl) (fun hcl hal => ?_)
 rw [vcells_eq x]
 obtain ⟨hb1, hb2, hb3, hb4, hb5, hb6⟩ := (jb_eq x).1 hjb
 have hxp := jsize_pos x
 have hp := (List.getElem?_eq_some_iff.1 hσp).1
 have hq := (List.getElem?_eq_some_iff.1 hσq).1
 have hr := (List.getElem?_eq_some_iff.1 hσr).1
 have hpq : p ≠ q := fun e => by rw [e, hσq] at hσp; cases hσp
 have hpr : p ≠ r := fun e => by rw [e, hσr] at hσp; cases hσp
 have hqr : q ≠ r := fun e => by rw [e, hσr] at hσq; have h0 := Option.some.inj hσq; injection h0 with h1; exact absurd h1 (by decide)
 have hpz := pth_size nm
 have hyf := yflat_len ks
 have hale := (List.getElem?_eq_some_iff.1 hat).1
 have hrlt := hc0 q _ hq hσq
 have hcl3 : ∀ (M : Nat) (R : List AV) (Z : AO), AV.ltL σ.length R → AV.ltL σ.length Z.cells → closed σ.length (S3 σ p q r (.box [.arr q M 4 0 M]) (.arr 4 M R) Z) := fun M R Z h1 h2 => closed_S3 hc0 (by simp [AO.cells, AV.ltL, AV.lt]; exact hq) h1 h2
 have hlt3 : ∀ ex : List JNode, AV.ltL σ.length (rows ++ noder ex).flatten := fun ex => by rw [List.flatten_append, ltL_append]; exact ⟨hrlt, nflat_lt _ _⟩
 have hkl := kids_len (n := nm) hjb
 have hmk := mcells_length (kidsM nm x)
 refine AWp_heap (S3_same hσp hσq hσr) ?_
 refine zsr ?_
 refine zt rfl (op_boxP (n := 0) (hn := rfl) (cs := [_, _, _, _, _, _, _, _, _]) rfl rfl rfl) ?_
 refine zv1 ?_
 refine zu2 ?_
 refine zt rfl (op_load1 rfl Tryz.isAgg9 (by first | exact ldv_ownP rfl rfl | exact ldv_pp rfl | exact ldv_ptr (S2_pA hpq hp) rfl | exact ldv_ptr (S3_pA hpq hpr hp) rfl)) ?_
 refine zt rfl (op_buildSlice [[_]] rfl Tryz.underlying48 Tryz.sizeOf9 Tryz.zeroValue9 rfl (by decide) (by decide) rfl rfl rfl rfl rfl) ?_
 refine zt rfl (zc rfl (pth_show nm _ hnm)) ?_
 refine zv2 ?_
 refine AWp_seq ?_
 refine zu1 ?_
 refine zt rfl (op_load1 rfl Tryz.isAgg9 (by first | exact ldv_ownP rfl rfl | exact ldv_pp rfl | exact ldv_ptr (S2_pA hpq hp) rfl | exact ldv_ptr (S3_pA hpq hpr hp) rfl)) ?_
 refine zg1 ?_
 refine zt rfl (op_loadK (cs := [_, _, _, _, _, _, _, _]) rfl Tryz.isAgg28 Tryz.sizeOf28 (by first | exact ldv_ownP rfl rfl | exact ldv_pp rfl | exact ldv_ptr (S2_pA hpq hp) rfl | exact ldv_ptr (S3_pA hpq hpr hp) rfl)) ?_
 refine zt rfl (zc rfl (vcells_eq x ▸ check_c nm x _ (by omega) (by omega) (fun _ => (whole_ok (numMay_J ((jmay_eq x).1 hjm).1.2.2.2.1)).symm))) ?_
 refine zv1 ?_
 refine zu1 ?_
 refine zt rfl (op_neCerv rfl Tryz.underlying33 rfl) ?_
 refine zon ?_
 refine AWp_cond rfl (fun h1 => ?_) (fun h1 => ?_)
 ·(try rw [h1]); replace h1 := zcl h1
  refine zsr ?_
  refine zt rfl (op_allocP (cs := [_]) 1 rfl rfl Tryz.zeroValue95 rfl) ?_
  refine zon ?_
  refine AWp_seq ?_
  rw [cerv_n h1]
  refine AWp_regL ?_
  refine zg2 ?_
  refine zt rfl (zc rfl (as_cP (rShape nm x) 0 1 rfl)) ?_
  refine zon ?_
  refine zu1 ?_
  refine zt rfl (op_load1 rfl Tryz.isAgg95 (by first | exact ldv_ownP rfl rfl | exact ldv_pp rfl | exact ldv_ptr (S2_pA hpq hp) rfl | exact ldv_ptr (S3_pA hpq hpr hp) rfl)) ?_
  refine zt rfl (zc rfl (scfail_c _ _ _ h1)) ?_
  refine zv1 ?_
  refine zrt ?_
  obtain ⟨rfl, rfl, rfl, rfl⟩ : ([] : List JKid) = kd ∧ ([] : List JNode) = ext ∧ rShape nm x = code ∧ (path ++ pth nm) = pp := by
   have := (pkey_s (f := pnd n) (path := path) (N := N) h1).symm.trans hpk
   simpa using this
  rw [kadd_n _ _ _ _ h1]
  refine ResQ_P (v := spE (rShape nm x, path ++ pth nm)) rfl (closed_S3 hc0 (by simp [AO.cells, AV.ltL, AV.lt]; omega) (by simp [AO.cells]; exact hrlt) (by simp [AO.cells])) (by rw [spE_n _ h1]; simp [AV.lt, AV.ltL]) ⟨rfl, ?_⟩
  have hss : rows.set a (hd4 hp4 ha hb (.arr r ks.length 10 0 ks.length)) = rows := by
   obtain ⟨hl1, hl2⟩ := List.getElem?_eq_some_iff.1 hat
   rw [← hl2]; exact List.set_getElem_self hl1
  rw [hss, noder_nil, List.append_nil]; rfl
 ·(try rw [h1]); replace h1 := zcl h1
  have h1 : rShape nm x = 0 := by simpa using h1
  refine AWp_skip ?_
  refine zu1 ?_
  refine zt rfl (op_load1 rfl Tryz.isAgg9 (by first | exact ldv_ownP rfl rfl | exact ldv_pp rfl | exact ldv_ptr (S2_pA hpq hp) rfl | exact ldv_ptr (S3_pA hpq hpr hp) rfl)) ?_
  refine zg1 ?_
  refine zt rfl (op_loadK (cs := [_, _, _, _, _, _, _, _]) rfl Tryz.isAgg28 Tryz.sizeOf28 (by first | exact ldv_ownP rfl rfl | exact ldv_pp rfl | exact ldv_ptr (S2_pA hpq hp) rfl | exact ldv_ptr (S3_pA hpq hpr hp) rfl)) ?_
  refine zg1 ?_
  refine zt rfl (op_allocP (cs := [_, _, _, _, _, _, _, _, _, _]) 1 rfl rfl Tryz.zeroValue55 rfl) ?_
  refine ztN rfl rfl ((by first | exact op_storeOP (r := [_, _, _, _, _, _, _, _, _, _]) rfl Tryz.sizeOf55 rfl rfl rfl rfl rfl (by decide) | exact op_storeS2p (c2 := [_, _, _, _, _, _, _, _, _, _]) hpq hp rfl Tryz.sizeOf55 rfl rfl rfl rfl (by decide))) ?_
  refine zon ?_
  refine AWp_seq ?_
  refine AWp_seq ?_
  refine AWp_ghostInP 1 9 2 2 rfl rfl rfl ?_
  refine AWp_regL ?_
  refine zg1 ?_
  refine zt rfl (op_load1 rfl Tryz.isAgg9 (by first | exact ldv_ownP rfl rfl | exact ldv_pp rfl | exact ldv_ptr (S2_pA hpq hp) rfl | exact ldv_ptr (S3_pA hpq hpr hp) rfl)) ?_
  refine zg1 ?_
  refine zt rfl (op_loadK (cs := [_, _, _, _, _, _, _, _]) rfl Tryz.isAgg28 Tryz.sizeOf28 (by first | exact ldv_ownP rfl rfl | exact ldv_pp rfl | exact ldv_ptr (S2_pA hpq hp) rfl | exact ldv_ptr (S3_pA hpq hpr hp) rfl)) ?_
  refine zt rfl (zc rfl (vcells_eq x ▸ kids_c nm x _ (by omega) (by omega))) ?_
  refine zv2 ?_
  refine AWp_block ?_
  -- loop 0 LIVE 0:param 1:param 2:assign 7:box 8:assign 11:alloc 44:call 45:call 46:move
  refine AWp_heap (σ' := S3 σ p q r (.box [.arr q (N + ([] : List JNode).length) 4 0 (N + ([] : List JNode).length)]) (.arr 4 (N + ([] : List JNode).length) (rows ++ noder ([] : List JNode)).flatten) (.arr 10 ks.length (keyr ks).flatten) ++ [.box [.str nm, .int .i64 x.kind, .bool x.b, .bool x.n.neg, .str x.n.digits, .int .i64 x.n.exp, .str x.s, .sl false 8 (lcells x.l), .sl false 9 (mcells x.m)], .box [.str nm, .int .i64 x.kind, .bool x.b, .bool x.n.neg, .str x.n.digits, .int .i64 x.n.exp, .str x.s, .sl false 8 (lcells x.l), .sl false 9 (mcells x.m), .arr (σ.length + 2) 0 2 0 0], .arr 2 0 (kidr ([] : List JKid)).flatten]) (by simp [noder, kidr]) ?_
  refine AWp_loop (ι := Nat × List JKid × List JNode) (fun y => y.1 ≤ (kidsM nm x).length ∧ pkids (pnd n) (path ++ pth nm) (decide (rk nm = 8)) N ((kidsM nm x).drop y.1) y.2.1 y.2.2 = pkids (pnd n) (path ++ pth nm) (decide (rk nm = 8)) N (kidsM nm x) [] [] ∧ N + y.2.2.length ≤ 200 ∧ y.2.1.length = y.1) (fun y => ⟨[], [(0, .ptr p 0), (1, .int .i64 (a : Int)), (2, .str (path ++ pth nm)), (7, .ptr (σ.length + 0) 0), (8, .nili), (11, .ptr (σ.length + 1) 0), (44, .sl false 9 (mcells (kidsM nm x))), (45, .int .i64 ((kidsM nm x).length : Int)), (46, .int .i64 (y.1 : Int))]⟩) (fun y => S3 σ p q r (.box [.arr q (N + y.2.2.length) 4 0 (N + y.2.2.length)]) (.arr 4 (N + y.2.2.length) (rows ++ noder y.2.2).flatten) (.arr 10 ks.length (keyr ks).flatten) ++ [.box [.str nm, .int .i64 x.kind, .bool x.b, .bool x.n.neg, .str x.n.digits, .int .i64 x.n.exp, .str x.s, .sl false 8 (lcells x.l), .sl false 9 (mcells x.m)], .box [.str nm, .int .i64 x.kind, .bool x.b, .bool x.n.neg, .str x.n.digits, .int .i64 x.n.exp, .str x.s, .sl false 8 (lcells x.l), .sl false 9 (mcells x.m), .arr (σ.length + 2) y.1 2 0 y.1], .arr 2 y.1 (kidr y.2.1).flatten]) (fun y => (kidsM nm x).length - y.1) ((0, [], [])) (⟨Nat.zero_le _, by rw [List.drop_zero], by simpa using hN, rfl⟩) ?_ rfl (fun y hy => ?_)
  ·exact ⟨rfl, rfl, rfl, rfl, rfl, rfl, rfl, rfl, congrArg (fun n : Nat => AV.int .i64 (n : Int)) (mcells_length _), rfl, trivial⟩
  obtain ⟨j, kd0, ex⟩ := y
  obtain ⟨hy1, hy2, hy3, hy5⟩ := hy
  simp only at hy1 hy2 hy3 hy5 ⊢
  refine zw1 ?_
  refine AWp_seq ?_
  refine AWp_cond rfl (fun h2 => ?_) (fun h2 => ?_)
  ·(try rw [h2]); replace h2 := zcl h2
   obtain ⟨k, hk⟩ : ∃ k, (kidsM nm x)[j]? = some k := ⟨_, List.getElem?_eq_getElem (show j < (kidsM nm x).length by omega)⟩
   rw [drop_consN hk] at hy2
   have hkb := kids_jb hjb hk
   have hks := kids_ks hjb hk
   have hkm := kids_may hjm hk
   have hkz := pth_size k.1
   have hk1 := jsize_pos k.2
   have hdf : (kidr kd0).flatten.length = j * 2 := by rw [dflat_len, hy5]
   have hnx : (if (decide (rk nm = 8)) = true then (path ++ pth nm) else (path ++ pth nm) ++ pth k.1).size + 4000010 * (jsize k.2).toNat ≤ 100000000000 := by
    have e1 : (if (decide (rk nm = 8)) = true then (path ++ pth nm) else (path ++ pth nm) ++ pth k.1).size ≤ path.size + (2 * nm.size + 1) + (2 * k.1.size + 1) := by
     split
     ·rw [ByteArray.size_append]; omega
     ·rw [ByteArray.size_append, ByteArray.size_append]; omega
    omega
   refine AWp_skip ?_
   refine AWp_seq ?_
   refine AWp_block ?_
   refine zu1 ?_
   rw [vcells_eq k.2]
   refine zt rfl (op_loadK (cs := [_, _, _, _, _, _, _, _, _]) rfl Tryz.isAgg122 Tryz.sizeOf122 (by first | exact ldv_ownP rfl rfl | exact ldv_pp rfl | exact ldv_ptr (S2_pA hpq hp) rfl | exact ldv_ptr (S3_pA hpq hpr hp) rfl)) ?_
   refine zt rfl (op_allocP (cs := [_, _, _, _, _, _, _, _, _]) 3 rfl rfl Tryz.zeroValue122 rfl) ?_
   refine ztN rfl rfl ((by first | exact op_storeOP (r := [_, _, _, _, _, _, _, _, _]) rfl Tryz.sizeOf122 rfl rfl rfl rfl rfl (by decide) | exact op_storeS2p (c2 := [_, _, _, _, _, _, _, _, _]) hpq hp rfl Tryz.sizeOf122 rfl rfl rfl rfl (by decide))) ?_
   refine zon ?_
   refine zw2 ?_
   refine AWp_join (ι := Unit) (fun b => True) (fun b => ⟨[], [(0, .ptr p 0), (1, .int .i64 (a : Int)), (2, .str (path ++ pth nm)), (7, .ptr (σ.length + 0) 0), (8, .nili), (11, .ptr (σ.length + 1) 0), (44, .sl false 9 (mcells (kidsM nm x))), (45, .int .i64 ((kidsM nm x).length : Int)), (46, .int .i64 (j : Int)), (13, .ptr (σ.length + 3) 0), (14, .str (if (decide (rk nm = 8)) = true then (path ++ pth nm) else (path ++ pth nm) ++ pth k.1))]⟩) (fun b => S3 σ p q r (.box [.arr q (N + ex.length) 4 0 (N + ex.length)]) (.arr 4 (N + ex.length) (rows ++ noder ex).flatten) (.arr 10 ks.length (keyr ks).flatten) ++ [.box [.str nm, .int .i64 x.kind, .bool x.b, .bool x.n.neg, .str x.n.digits, .int .i64 x.n.exp, .str x.s, .sl false 8 (lcells x.l), .sl false 9 (mcells x.m)], .box [.str nm, .int .i64 x.kind, .bool x.b, .bool x.n.neg, .str x.n.digits, .int .i64 x.n.exp, .str x.s, .sl false 8 (lcells x.l), .sl false 9 (mcells x.m), .arr (σ.length + 2) j 2 0 j], .arr 2 j (kidr kd0).flatten, .box (.str k.1 :: [.int .i64 k.2.kind, .bool k.2.b, .bool k.2.n.neg, .str k.2.n.digits, .int .i64 k.2.n.exp, .str k.2.s, .sl false 8 (lcells k.2.l), .sl false 9 (mcells k.2.m)])]) ?_ (fun b hj => ?_)
   ·skip
    refine zu1 ?_
    refine zt rfl (op_load1 rfl Tryz.isAgg9 (by first | exact ldv_ownP rfl rfl | exact ldv_pp rfl | exact ldv_ptr (S2_pA hpq hp) rfl | exact ldv_ptr (S3_pA hpq hpr hp) rfl)) ?_
    refine zt rfl (zc rfl (single_c nm _)) ?_
    refine zv1 ?_
    refine AWp_cond rfl (fun h3 => ?_) (fun h3 => ?_)
    ·(try rw [h3]); replace h3 := zcl h3
     refine AWp_regL ?_
     refine zg2 ?_
     refine zt rfl (op_load1 rfl Tryz.isAgg9 (by first | exact ldv_ownP rfl rfl | exact ldv_pp rfl | exact ldv_ptr (S2_pA hpq hp) rfl | exact ldv_ptr (S3_pA hpq hpr hp) rfl)) ?_
     refine zt rfl (op_buildSlice [[_]] rfl Tryz.underlying48 Tryz.sizeOf9 Tryz.zeroValue9 rfl (by decide) (by decide) rfl rfl rfl rfl rfl) ?_
     refine zt rfl (zc rfl (pth_show k.1 _ hks)) ?_
     refine zv2 ?_
     have hg : ¬ (decide (rk nm = 8)) = true := by simpa using h3
     rw [if_neg hg]
     exact ⟨(), trivial, ⟨rfl, rfl, rfl, rfl, rfl, rfl, rfl, rfl, rfl, rfl, rfl, rfl, trivial⟩, rfl⟩
    ·(try rw [h3]); replace h3 := zcl h3
     refine AWp_skip ?_
     have hg : (decide (rk nm = 8)) = true := by simpa using h3
     rw [if_pos hg]
     exact ⟨(), trivial, ⟨rfl, rfl, rfl, rfl, rfl, rfl, rfl, rfl, rfl, rfl, rfl, rfl, trivial⟩, rfl⟩
   ·skip
    refine AWp_seq ?_
    refine AWp_drawL #[0, 1, 0, 4, 0, 16, 48, 112, 240, 508, 1020, 2047, 4095, 8191] Tryz.mixed (by decide +kernel) (by decide +kernel) ?_
    refine zd1 ?_
    refine yP rfl rfl (op_load1 rfl Tryz.isAgg53 (by first | exact ldv_ownP rfl rfl | exact ldv_pp rfl | exact ldv_ptr (S2_pA hpq hp) rfl | exact ldv_ptr (S3_pA hpq hpr hp) rfl)) (trivial) ?_
    refine zd1 ?_
    refine yP rfl rfl (op_load1 rfl Tryz.isAgg9 (by first | exact ldv_ownP rfl rfl | exact ldv_pp rfl | exact ldv_ptr (S2_pA hpq hp) rfl | exact ldv_ptr (S3_pA hpq hpr hp) rfl)) (trivial) ?_
    refine zd3 ?_
    refine yP rfl rfl (op_load1 rfl Tryz.isAgg31 (by first | exact ldv_ownP rfl rfl | exact ldv_pp rfl | exact ldv_ptr (S2_pA hpq hp) rfl | exact ldv_ptr (S3_pA hpq hpr hp) rfl)) (trivial) ?_
    refine yP rfl rfl (op_lenS rfl rfl Tryz.underlying31 rfl rfl ⟨_, _, S3_qA hqr hq⟩) (trivial) ?_
    refine zd1 ?_
    refine yA rfl rfl (fun _ => op_buildSlice [[_, _]] rfl Tryz.underlying53 Tryz.sizeOf57 Tryz.zeroValue57 rfl (by decide) (by decide) rfl rfl rfl rfl rfl) ?_
    refine yE rfl rfl (op_appendArrT LenOf.h 2 (sz := 2) (m := 1) (len := j) (cs := _) rfl (.inr ⟨_, rfl⟩) Tryz.underlying53 Tryz.underlying53 Tryz.type57 rfl rfl rfl (by decide) rfl rfl hdf.symm rfl rfl rfl (by show (j + 1) * 24 ≤ _; omega) (by omega) rfl) (⟨.inl rfl, ⟨.inl rfl, ⟨.inl rfl, ⟨.inl rfl, trivial⟩⟩⟩⟩) (trivial) ?_
    refine zd1 ?_
    refine yEN rfl rfl rfl (op_storeOP (r := [.str nm, .int .i64 x.kind, .bool x.b, .bool x.n.neg, .str x.n.digits, .int .i64 x.n.exp, .str x.s, .sl false 8 (lcells x.l), .sl false 9 (mcells x.m), .arr (σ.length + 2) (j + 1) 2 0 (j + 1)]) rfl Tryz.sizeOf53 rfl rfl rfl rfl rfl (by decide)) (⟨.inl rfl, ⟨.inl rfl, ⟨.inl rfl, ⟨.inl rfl, trivial⟩⟩⟩⟩) (⟨rfl, trivial⟩) ?_
    refine RP.nil rfl ?_
    refine AWp_seq ?_
    refine AWp_heap (σ' := S3 σ p q r (.box [.arr q (N + ex.length) 4 0 (N + ex.length)]) (.arr 4 (N + ex.length) (rows ++ noder ex).flatten) (.arr 10 ks.length (keyr ks).flatten) ++ [.box [.str nm, .int .i64 x.kind, .bool x.b, .bool x.n.neg, .str x.n.digits, .int .i64 x.n.exp, .str x.s, .sl false 8 (lcells x.l), .sl false 9 (mcells x.m)], .box [.str nm, .int .i64 x.kind, .bool x.b, .bool x.n.neg, .str x.n.digits, .int .i64 x.n.exp, .str x.s, .sl false 8 (lcells x.l), .sl false 9 (mcells x.m), .arr (σ.length + 2) (j + 1) 2 0 (j + 1)], .arr 2 (j + 1) (kidr (kd0 ++ [⟨k.1, ((N + ex.length : Nat) : Int)⟩])).flatten, .box (.str k.1 :: [.int .i64 k.2.kind, .bool k.2.b, .bool k.2.n.neg, .str k.2.n.digits, .int .i64 k.2.n.exp, .str k.2.s, .sl false 8 (lcells k.2.l), .sl false 9 (mcells k.2.m)])]) (by rw [kidr_snoc]; rfl) ?_
    have hH : ∀ H : List AO, H = S3 σ p q r (.box [.arr q (N + ex.length) 4 0 (N + ex.length)]) (.arr 4 (N + ex.length) (rows ++ noder ex).flatten) (.arr 10 ks.length (keyr ks).flatten) ++ ([.box [.str nm, .int .i64 x.kind, .bool x.b, .bool x.n.neg, .str x.n.digits, .int .i64 x.n.exp, .str x.s, .sl false 8 (lcells x.l), .sl false 9 (mcells x.m)], .box [.str nm, .int .i64 x.kind, .bool x.b, .bool x.n.neg, .str x.n.digits, .int .i64 x.n.exp, .str x.s, .sl false 8 (lcells x.l), .sl false 9 (mcells x.m), .arr (σ.length + 2) (j + 1) 2 0 (j + 1)], .arr 2 (j + 1) (kidr (kd0 ++ [⟨k.1, ((N + ex.length : Nat) : Int)⟩])).flatten, .box (.str k.1 :: [.int .i64 k.2.kind, .bool k.2.b, .bool k.2.n.neg, .str k.2.n.digits, .int .i64 k.2.n.exp, .str k.2.s, .sl false 8 (lcells k.2.l), .sl false 9 (mcells k.2.m)])] : List AO) → closed H.length H := fun H e => by subst e; exact closed_lenP 4 rfl (hcl3 _ _ _ (hlt3 ex) (yflat_lt _ _)) (by simp [ownLt, AO.cells, AV.ltL, AV.lt])
    refine AWp_regL ?_
    refine zg3 ?_
    refine zt rfl (op_loadK (cs := [_, _, _, _, _, _, _, _]) rfl Tryz.isAgg28 Tryz.sizeOf28 (by first | exact ldv_ownP rfl rfl | exact ldv_pp rfl | exact ldv_ptr (S2_pA hpq hp) rfl | exact ldv_ptr (S3_pA hpq hpr hp) rfl)) ?_
    cases hpn : pnd n (if (decide (rk nm = 8)) = true then (path ++ pth nm) else (path ++ pth nm) ++ pth k.1) k.2 (N + ex.length) with
    | mk e2 z =>
    obtain ⟨c2, p2⟩ := z
    refine zt rfl (zc rfl (callS2S3 hpq hpr hqr hp hq (vcells_eq k.2 ▸ ih k.2 (if (decide (rk nm = 8)) = true then (path ++ pth nm) else (path ++ pth nm) ++ pth k.1) (rows ++ noder ex) (N + ex.length) p q e2 c2 p2 _ (hH _ rfl) (S3_pA hpq hpr hp) (S3_qA hqr hq) (by rw [List.length_append, noder_len, hrl]) (rows_el hre ex) hy3 (by omega) hkb.1 hkm hnx hpn))) ?_
    refine zv1 ?_
    refine zu1 ?_
    refine zt rfl (op_neSpE rfl Tryz.underlying33 rfl) ?_
    refine zon ?_
    refine AWp_cond rfl (fun h4 => ?_) (fun h4 => ?_)
    ·(try rw [h4]); replace h4 := zcl h4
     have hc2 : ¬ c2 = 0 := by simpa using h4
     refine zw2 ?_
     refine zrt ?_
     have hpk2 := (pkids_b hpn hc2).symm.trans (hy2.trans ((pkey_k (f := pnd n) (path := path) (N := N) h1).symm.trans hpk))
     obtain ⟨rfl, rfl, rfl, rfl⟩ : _ = kd ∧ ex ++ e2 = ext ∧ c2 = code ∧ p2 = pp := by simpa using hpk2
     rw [kadd_n _ _ _ _ hc2]
     refine ResQ_P (v := spE (c2, p2)) rfl (hcl3 _ _ _ (by simp only [List.append_assoc, ← noder_app]; exact hlt3 _) (yflat_lt _ _)) (by rw [spE_n _ hc2]; simp [AV.lt, AV.ltL]) ⟨rfl, ?_⟩
     have hss : rows.set a (hd4 hp4 ha hb (.arr r ks.length 10 0 ks.length)) = rows := by
      obtain ⟨hl1, hl2⟩ := List.getElem?_eq_some_iff.1 hat
      rw [← hl2]; exact List.set_getElem_self hl1
     rw [hss, noder_app, List.length_append, Nat.add_assoc, List.append_assoc]
    ·(try rw [h4]); replace h4 := zcl h4
     have hc2 : c2 = 0 := by simpa using h4
     refine AWp_skip ?_
     refine AWp_regL ?_
     refine zv2 ?_
     have hyn := pnd_len n (if (decide (rk nm = 8)) = true then (path ++ pth nm) else (path ++ pth nm) ++ pth k.1) k.2 (N + ex.length) hy3
     rw [hpn] at hyn
     simp only at hyn
     refine ⟨(j + 1, kd0 ++ [⟨k.1, ((N + ex.length : Nat) : Int)⟩], ex ++ e2), σ.length + 3, ⟨by simp only; omega, ?_, by simp only [List.length_append]; omega, by simp only [List.length_append, List.length_singleton]; omega⟩, by simp only; omega, by simp [S3_len], ⟨rfl, rfl, rfl, rfl, rfl, rfl, rfl, rfl, rfl, rfl, trivial⟩, closed_ownP 3 (hcl3 _ _ _ (by simp only [List.append_assoc, ← noder_app]; exact hlt3 _) (yflat_lt _ _)) ?_, ?_, ?_⟩
     ·simp only; rw [← hy2, pkids_g hpn hc2]
     ·simp [ownLt, AO.cells, AV.ltL, AV.lt, ltL_append]
     ·simp [ltE, AV.lt, AV.ltL]; omega
     ·refine (take_ownP 3).trans ?_
      simp only [noder_app, List.append_assoc, List.length_append, Nat.add_assoc]; rfl
  ·(try rw [h2]); replace h2 := zcl h2
   refine AWp_exit ?_
   refine AWp_seq ?_
   have hje : j = (kidsM nm x).length := by omega
   have hpk2 : (kd0, ex, (0 : Int), e0) = (kd, ext, code, pp) := by rw [← hpk, pkey_k h1, ← hy2, hje, List.drop_length]; rfl
   obtain ⟨rfl, rfl, rfl, rfl⟩ : kd0 = kd ∧ ex = ext ∧ (0 : Int) = code ∧ e0 = pp := by simpa using hpk2
   refine AWp_freezeInP 1 9 2 j 2 j rfl rfl rfl (kidr kd0) rfl (kidr_el _) (by rw [kidr_len]; exact hy5) (by decide) ?_
   have hrx : (rows ++ noder ex)[a]? = some (hd4 hp4 ha hb (.arr r ks.length 10 0 ks.length)) := by rw [List.getElem?_append_left hale]; exact hat
   have hkey := row_flat (rows_el hre ex) hrx (j := 3) (v := .arr r ks.length 10 0 ks.length) rfl
   have hfl : a * 4 + 3 < (rows ++ noder ex).flatten.length := (List.getElem?_eq_some_iff.1 hkey).1
   refine AWp_drawL #[0, 1, 3, 7, 0, 0, 32, 96, 224, 0, 992, 2016, 4064, 0, 8192, 32736, 65535, 131071, 262143] Tryz.mixed (by decide +kernel) (by decide +kernel) ?_
   refine zd3 ?_
   refine yP rfl rfl (op_load1 rfl Tryz.isAgg31 (by first | exact ldv_ownP rfl rfl | exact ldv_pp rfl | exact ldv_ptr (S2_pA hpq hp) rfl | exact ldv_ptr (S3_pA hpq hpr hp) rfl)) (trivial) ?_
   refine zd4 ?_
   refine yP rfl rfl (op_load1 rfl Tryz.isAgg31 (by first | exact ldv_ownP rfl rfl | exact ldv_pp rfl | exact ldv_ptr (S2_pA hpq hp) rfl | exact ldv_ptr (S3_pA hpq hpr hp) rfl)) (trivial) ?_
   refine zd1 ?_
   refine yP rfl rfl (op_indexAddrA rfl Tryz.underlying31 Tryz.sizeOf47 rfl rfl (by omega) (by omega) (S3_qA hqr hq)) (trivial) ?_
   refine yP rfl rfl (op_fieldAddrO (fo := 3) rfl Tryz.underlying47 rfl rfl Tryz.sizeOf45 (by decide) rfl ⟨_, _, S3_qA hqr hq⟩) (trivial) ?_
   refine yP rfl rfl (op_load1 rfl Tryz.isAgg45 (ldv_elP (i := a * 4 + 3) (S3_qA hqr hq) hkey rfl)) (trivial) ?_
   refine yP rfl rfl (op_loadK (cs := [_, _, _, _, _, _, _, _, _, _]) rfl Tryz.isAgg55 Tryz.sizeOf55 (by first | exact ldv_ownP rfl rfl | exact ldv_pp rfl | exact ldv_ptr (S2_pA hpq hp) rfl | exact ldv_ptr (S3_pA hpq hpr hp) rfl)) (trivial) ?_
   refine yA rfl rfl (fun _ => op_buildSlice [[_, _, _, _, _, _, _, _, _, _]] rfl Tryz.underlying45 Tryz.sizeOf55 Tryz.zeroValue55 rfl (by decide) (by decide) rfl rfl rfl rfl rfl) ?_
   refine yE rfl rfl (op_appendS3r hr (sz := 10) (m := 1) (len := ks.length) (cs := _) rfl (.inr ⟨_, rfl⟩) Tryz.underlying45 Tryz.underlying45 Tryz.type55 rfl rfl rfl (by decide) rfl hyf.symm rfl rfl rfl (by show (ks.length + 1) * 152 ≤ _; omega) (by omega) rfl) (⟨.inl rfl, ⟨.inl rfl, ⟨.inl rfl, ⟨.inl rfl, ⟨.inl rfl, ⟨.inr (op_load1 rfl Tryz.isAgg31 (ldv_ptr (S3_pA hpq hpr hp) rfl)), trivial⟩⟩⟩⟩⟩⟩) (trivial) ?_
   refine yP rfl rfl (op_indexAddrA rfl Tryz.underlying31 Tryz.sizeOf47 rfl rfl (by omega) (by omega) (S3_qA hqr hq)) (⟨.inl rfl, trivial⟩) ?_
   refine yP rfl rfl (op_fieldAddrO (fo := 3) rfl Tryz.underlying47 rfl rfl Tryz.sizeOf45 (by decide) rfl ⟨_, _, S3_qA hqr hq⟩) (⟨.inl rfl, trivial⟩) ?_
   refine yEN rfl rfl rfl (op_storeS3q (i := a * 4 + 3) hqr hq rfl Tryz.sizeOf45 rfl rfl rfl rfl rfl hfl) (⟨.inl rfl, ⟨.inl rfl, ⟨.inl rfl, ⟨.inl rfl, ⟨.inl rfl, ⟨.inl rfl, ⟨.inl rfl, ⟨.inl rfl, trivial⟩⟩⟩⟩⟩⟩⟩⟩) (⟨rfl, trivial⟩) ?_
   refine RP.nil rfl ?_
   refine AWp_seq ?_
   have hrs : (rows ++ noder ex).flatten.set (a * 4 + 3) (.arr r (ks.length + 1) 10 0 (ks.length + 1)) = (rows.set a (hd4 hp4 ha hb (.arr r (ks.length + 1) 10 0 (ks.length + 1))) ++ noder ex).flatten := by
    have h9 := row_set (rows_el hre ex) hrx (j := 3) (by show 3 < 4; decide) (.arr r (ks.length + 1) 10 0 (ks.length + 1))
    rw [h9, List.set_append_left _ _ hale]; rfl
   refine AWp_heap (σ' := S3 σ p q r (.box [.arr q (N + ex.length) 4 0 (N + ex.length)]) (.arr 4 (N + ex.length) (rows.set a (hd4 hp4 ha hb (.arr r (ks.length + 1) 10 0 (ks.length + 1))) ++ noder ex).flatten) (.arr 10 (ks.length + 1) (keyr (ks ++ [⟨nm, x, kd0⟩])).flatten) ++ [.box [.str nm, .int .i64 x.kind, .bool x.b, .bool x.n.neg, .str x.n.digits, .int .i64 x.n.exp, .str x.s, .sl false 8 (lcells x.l), .sl false 9 (mcells x.m)], .box [.str nm, .int .i64 x.kind, .bool x.b, .bool x.n.neg, .str x.n.digits, .int .i64 x.n.exp, .str x.s, .sl false 8 (lcells x.l), .sl false 9 (mcells x.m), .sl false 2 (kidr kd0)], .dead]) (by rw [keyr_snoc, keyc_eq, ← hrs]; rfl) ?_
   refine AWp_regL ?_
   refine zv1 ?_
   refine zrt ?_
   rw [kadd_0 _ _ _ _ rfl, spE_0 _ rfl, List.length_append, List.length_singleton]
   refine ResQ_P (v := .nili) rfl (hcl3 _ _ _ ?_ (yflat_lt _ _)) trivial ⟨rfl, rfl⟩
   rw [List.flatten_append, ltL_append]
   refine ⟨?_, nflat_lt _ _⟩
   rw [AV.ltL_iff]; intro z hz
   obtain ⟨e, he, hze⟩ := List.mem_flatten.1 hz
   rcases List.mem_or_eq_of_mem_set he with he | rfl
   ·exact (AV.ltL_iff _ _).1 hrlt z (List.mem_flatten.2 ⟨e, he, hze⟩)
   ·simp [hd4] at hze; rcases hze with rfl | rfl | rfl | rfl <;> simp [AV.lt, hr]
end Lg
set_option maxRecDepth 20000
set_option maxHeartbeats 4000000
namespace Lg
open Go Go.Proofs Go.RowKit
variable [GLay] [ML] [ET] [S10]
theorem snode_s (n : Nat) (ih : ∀ (v : JV) (path : ByteArray) (rows : List (List AV)) (N p q : Nat) (ext : List JNode) (code : Int) (pp : ByteArray) (σ : List AO), closed σ.length σ → σ[p]? = some (.box [.arr q (N) 4 0 (N)]) → σ[q]? = some (.arr 4 N rows.flatten) → rows.length = N → (∀ e ∈ rows, e.length = 4) → N ≤ 200 → jsize v ≤ n → jb v → jmay v → path.size + 4000010 * (jsize v).toNat ≤ 100000000000 → pnd (n) path v N = (ext, code, pp) → ACalls Tryz.prog 37 [.ptr p 0, .str path, .agg (vcells v)] σ (Ret (spE (code, pp)) (S2 σ p q (.box [.arr q (N + ext.length) 4 0 (N + ext.length)]) (.arr 4 (N + ext.length) (rows ++ noder ext).flatten)))) (v : JV) (path : ByteArray) (rows : List (List AV)) (N p q : Nat) (ext : List JNode) (code : Int) (pp : ByteArray) (σ : List AO) (hc0 : closed σ.length σ) (hσp : σ[p]? = some (.box [.arr q (N) 4 0 (N)])) (hσq : σ[q]? = some (.arr 4 N rows.flatten)) (hrl : rows.length = N) (hre : ∀ e ∈ rows, e.length = 4) (hN : N ≤ 200) (hj : jsize v ≤ n + 1) (hjb : jb v) (hjm : jmay v) (hps : path.size + 4000010 * (jsize v).toNat ≤ 100000000000) (hpn : pnd (n + 1) path v N = (ext, code, pp)) : ACalls Tryz.prog 37 [.ptr p 0, .str path, .agg (vcells v)] σ (Ret (spE (code, pp)) (S2 σ p q (.box [.arr q (N + ext.length) 4 0 (N + ext.length)]) (.arr 4 (N + ext.length) (rows ++ noder ext).flatten))) := by
 refine ACalls_body Tryz.func37 rfl Tryz.ntmps37 (res1 Tryz.results37) (Nat.le_of_ble_eq_true rfl) (fun hcl hal => ?_)
 rw [vcells_eq v]
 obtain ⟨hb1, hb2, hb3, hb4, hb5, hb6⟩ := (jb_eq v).1 hjb
 have hvs := jsize_eq v
 have hv1 := jsize_pos v
 have hl0 := lsize_nn v.l
 have hmn := mcells_length v.m
 have hp := (List.getElem?_eq_some_iff.1 hσp).1
 have hq := (List.getElem?_eq_some_iff.1 hσq).1
 have hpq : p ≠ q := fun e => by rw [e, hσq] at hσp; cases hσp
 have hrlt := hc0 q _ hq hσq
 have hnf := rows_fl hre hrl
 refine AWp_heap (S2_same hσp hσq) ?_
 refine zsr ?_
 refine zt rfl (op_boxP (n := 0) (hn := rfl) (cs := [_, _, _, _, _, _, _, _]) rfl rfl rfl) ?_
 refine zv1 ?_
 refine zu3 ?_
 refine zt rfl (op_load1 rfl Tryz.isAgg31 (by first | exact ldv_ownP rfl rfl | exact ldv_pp rfl | exact ldv_ptr (S2_pA hpq hp) rfl | exact ldv_ptr (S3_pA hpq hpr hp) rfl)) ?_
 refine zt rfl (op_lenS rfl rfl Tryz.underlying31 rfl rfl ⟨_, _, S2_qA hq⟩) ?_
 refine zv1 ?_
 refine AWp_seq ?_
 refine zw2 ?_
 refine AWp_cond rfl (fun h1 => ?_) (fun h1 => ?_)
 ·(try rw [h1]); replace h1 := zcl h1
  refine zu1 ?_
  refine zt rfl (zc rfl (scfail_c path 5 _ (by decide))) ?_
  refine zv1 ?_
  refine zrt ?_
  obtain ⟨rfl, rfl, rfl⟩ : ([] : List JNode) = ext ∧ (5 : Int) = code ∧ path = pp := by simpa using (pnd_m (n := n) (path := path) (v := v) (by omega : N = 200)).symm.trans hpn
  refine ResQ_P (v := spE (5, path)) rfl (closed_S2 hc0 (by simp [AO.cells, AV.ltL, AV.lt]; omega) hrlt) (by rw [spE_n _ (by decide)]; simp [AV.lt, AV.ltL]) ⟨rfl, ?_⟩
  rw [noder_nil, List.append_nil]; rfl
 ·(try rw [h1]); replace h1 := zcl h1
  refine AWp_skip ?_
  refine AWp_join (ι := Unit) (fun b => True) (fun b => ⟨[], [(0, .ptr p 0), (1, .str path), (5, .ptr (σ.length + 0) 0), (6, .nili), (7, .int .i64 (N : Int))]⟩) (fun b => S2 σ p q (.box [.arr q (N + 1) 4 0 (N + 1)]) (.arr 4 (N + 1) (rows.flatten ++ [.str path, .bool (decide (v.kind = 1)), .bool (decide (v.kind = 1) && v.b), .nils])) ++ [.box [.int .i64 v.kind, .bool v.b, .bool v.n.neg, .str v.n.digits, .int .i64 v.n.exp, .str v.s, .sl false 8 (lcells v.l), .sl false 9 (mcells v.m)]]) ?_ (fun b hj => ?_)
  ·skip
   refine AWp_drawL #[0, 0, 2, 6, 14, 0, 0, 64, 192, 0, 512, 1536, 3584, 7680, 15872, 32256, 65504, 131040, 262142, 524287, 1048575, 2097151] Tryz.mixed (by decide +kernel) (by decide +kernel) ?_
   refine zd4 ?_
   refine yP rfl rfl (op_load1 rfl Tryz.isAgg31 (by first | exact ldv_ownP rfl rfl | exact ldv_pp rfl | exact ldv_ptr (S2_pA hpq hp) rfl | exact ldv_ptr (S3_pA hpq hpr hp) rfl)) (trivial) ?_
   refine zd2 ?_
   refine yP rfl rfl (op_load1 rfl Tryz.isAgg3 (by first | exact ldv_ownP rfl rfl | exact ldv_pp rfl | exact ldv_ptr (S2_pA hpq hp) rfl | exact ldv_ptr (S3_pA hpq hpr hp) rfl)) (trivial) ?_
   refine zd2 ?_
   refine yP rfl rfl (op_load1 rfl Tryz.isAgg3 (by first | exact ldv_ownP rfl rfl | exact ldv_pp rfl | exact ldv_ptr (S2_pA hpq hp) rfl | exact ldv_ptr (S3_pA hpq hpr hp) rfl)) (trivial) ?_
   refine zd2 ?_
   refine zspr 32 rfl (fun h2 => ?_) fun h2 => ?_
   ·rw [h2]; replace h2 := zcl h2
    refine zd1 ?_
    refine yPG rfl rfl rfl (op_load1 rfl Tryz.isAgg4 (by first | exact ldv_ownP rfl rfl | exact ldv_pp rfl | exact ldv_ptr (S2_pA hpq hp) rfl | exact ldv_ptr (S3_pA hpq hpr hp) rfl)) (trivial) ?_
    refine zd2 ?_
    refine yA rfl rfl (fun _ => op_buildSlice [[_, _, _, _]] rfl Tryz.underlying31 Tryz.sizeOf47 Tryz.zeroValue47 rfl (by decide) (by decide) rfl rfl rfl rfl rfl) ?_
    refine yE rfl rfl (op_appendS2q hq (sz := 4) (m := 1) (len := N) (cs := _) rfl (.inr ⟨_, rfl⟩) Tryz.underlying31 Tryz.underlying31 Tryz.type47 rfl rfl rfl (by decide) rfl hnf.symm rfl rfl rfl (by show (N + 1) * 48 ≤ _; omega) (by omega) rfl) (⟨.inl rfl, ⟨.inl rfl, ⟨.inl rfl, ⟨.inl rfl, trivial⟩⟩⟩⟩) (trivial) ?_
    refine zd2 ?_
    refine yEN rfl rfl rfl ((by first | exact op_storeOP (r := [_]) rfl Tryz.sizeOf31 rfl rfl rfl rfl rfl (by decide) | exact op_storeS2p (c2 := [_]) hpq hp rfl Tryz.sizeOf31 rfl rfl rfl rfl (by decide))) (⟨.inl rfl, ⟨.inl rfl, ⟨.inl rfl, ⟨.inl rfl, trivial⟩⟩⟩⟩) (⟨rfl, trivial⟩) ?_
    refine RP.nil rfl ?_
    exact ⟨(), trivial, ⟨rfl, rfl, rfl, rfl, rfl, rfl, trivial⟩, by first | rfl | simp_all⟩
   ·rw [h2]; replace h2 := zcl h2
    refine zd4 ?_
    refine yA rfl rfl (fun _ => op_buildSlice [[_, _, _, _]] rfl Tryz.underlying31 Tryz.sizeOf47 Tryz.zeroValue47 rfl (by decide) (by decide) rfl rfl rfl rfl rfl) ?_
    refine yE rfl rfl (op_appendS2q hq (sz := 4) (m := 1) (len := N) (cs := _) rfl (.inr ⟨_, rfl⟩) Tryz.underlying31 Tryz.underlying31 Tryz.type47 rfl rfl rfl (by decide) rfl hnf.symm rfl rfl rfl (by show (N + 1) * 48 ≤ _; omega) (by omega) rfl) (⟨.inl rfl, ⟨.inl rfl, ⟨.inl rfl, trivial⟩⟩⟩) (trivial) ?_
    refine zd2 ?_
    refine yEN rfl rfl rfl ((by first | exact op_storeOP (r := [_]) rfl Tryz.sizeOf31 rfl rfl rfl rfl rfl (by decide) | exact op_storeS2p (c2 := [_]) hpq hp rfl Tryz.sizeOf31 rfl rfl rfl rfl (by decide))) (⟨.inl rfl, ⟨.inl rfl, ⟨.inl rfl, trivial⟩⟩⟩) (⟨rfl, trivial⟩) ?_
    refine RP.nil rfl ?_
    exact ⟨(), trivial, ⟨rfl, rfl, rfl, rfl, rfl, rfl, trivial⟩, by first | rfl | simp_all⟩
  ·skip
   refine AWp_seq ?_
   refine zu1 ?_
   refine zt rfl (op_load1 rfl Tryz.isAgg26 (by first | exact ldv_ownP rfl rfl | exact ldv_pp rfl | exact ldv_ptr (S2_pA hpq hp) rfl | exact ldv_ptr (S3_pA hpq hpr hp) rfl)) ?_
   refine zv2 ?_
   refine AWp_block ?_
   -- loop 0 LIVE 0:param 1:param 6:assign 7:assign 42:load 43:call 44:move
   have hgi : (rows.flatten ++ [.str path, .bool (decide (v.kind = 1)), .bool (decide (v.kind = 1) && v.b), .nils])[N * 4 + 3]? = some AV.nils := by rw [List.getElem?_append_right (by omega), hnf, show N * 4 + 3 - N * 4 = 3 by omega]; rfl
   refine AWp_ghostS2 (N * 4 + 3) 10 1 hq rfl hgi ?_
   rw [open_new, open_set hre hrl]
   refine AWp_heap (σ' := S2 σ p q (.box [.arr q (N + 1 + ([] : List JNode).length) 4 0 (N + 1 + ([] : List JNode).length)]) (.arr 4 (N + 1 + ([] : List JNode).length) (rows ++ hd4 path (decide (v.kind = 1)) (decide (v.kind = 1) && v.b) (.arr (σ.length + 1) ([] : List JKey).length 10 0 ([] : List JKey).length) :: noder ([] : List JNode)).flatten) ++ [.box [.int .i64 v.kind, .bool v.b, .bool v.n.neg, .str v.n.digits, .int .i64 v.n.exp, .str v.s, .sl false 8 (lcells v.l), .sl false 9 (mcells v.m)], .arr 10 ([] : List JKey).length (keyr ([] : List JKey)).flatten]) rfl ?_
   refine AWp_loop (ι := Nat × List JKey × List JNode) (fun z => z.1 ≤ v.m.length ∧ pmems (pnd n) path (N + 1) (v.m.drop z.1) z.2.1 z.2.2 = pmems (pnd n) path (N + 1) v.m [] [] ∧ N + 1 + z.2.2.length ≤ 200 ∧ z.2.1.length ≤ z.1) (fun z => ⟨[], [(0, .ptr p 0), (1, .str path), (5, .ptr (σ.length + 0) 0), (6, .nili), (7, .int .i64 (N : Int)), (42, .sl false 9 (mcells v.m)), (43, .int .i64 (v.m.length : Int)), (44, .int .i64 (z.1 : Int))]⟩) (fun z => S2 σ p q (.box [.arr q (N + 1 + z.2.2.length) 4 0 (N + 1 + z.2.2.length)]) (.arr 4 (N + 1 + z.2.2.length) (rows ++ hd4 path (decide (v.kind = 1)) (decide (v.kind = 1) && v.b) (.arr (σ.length + 1) z.2.1.length 10 0 z.2.1.length) :: noder z.2.2).flatten) ++ [.box [.int .i64 v.kind, .bool v.b, .bool v.n.neg, .str v.n.digits, .int .i64 v.n.exp, .str v.s, .sl false 8 (lcells v.l), .sl false 9 (mcells v.m)], .arr 10 z.2.1.length (keyr z.2.1).flatten]) (fun z => v.m.length - z.1) ((0, [], [])) (⟨Nat.zero_le _, by rw [List.drop_zero], by simp only [List.length_nil]; omega, Nat.le_refl _⟩) ?_ rfl (fun z hz => ?_)
   ·exact ⟨rfl, rfl, rfl, rfl, rfl, rfl, rfl, congrArg (fun n : Nat => AV.int .i64 (n : Int)) (mcells_length _), rfl, trivial⟩
   obtain ⟨i, ks, ex⟩ := z
   obtain ⟨hz1, hz2, hz3, hz4⟩ := hz
   simp only at hz1 hz2 hz3 hz4 ⊢
   refine zw1 ?_
   refine AWp_seq ?_
   refine AWp_cond rfl (fun h3 => ?_) (fun h3 => ?_)
   ·(try rw [h3]); replace h3 := zcl h3
    obtain ⟨w, hw⟩ : ∃ w, v.m[i]? = some w := ⟨_, List.getElem?_eq_getElem (show i < v.m.length by omega)⟩
    rw [drop_consN hw] at hz2
    have hqb := mb_get hb6 hw
    have hxs := msize_mem hw
    have hq1 := jsize_pos w.2
    have hpkl := pkey_len (pnd_len n) path w.1 w.2 hz3
    refine AWp_skip ?_
    refine AWp_seq ?_
    refine AWp_block ?_
    refine zu1 ?_
    rw [vcells_eq w.2]
    refine zt rfl (op_loadK (cs := [_, _, _, _, _, _, _, _, _]) rfl Tryz.isAgg122 Tryz.sizeOf122 (by first | exact ldv_ownP rfl rfl | exact ldv_pp rfl | exact ldv_ptr (S2_pA hpq hp) rfl | exact ldv_ptr (S3_pA hpq hpr hp) rfl)) ?_
    refine zt rfl (op_allocP (cs := [_, _, _, _, _, _, _, _, _]) 2 rfl rfl Tryz.zeroValue122 rfl) ?_
    refine ztN rfl rfl ((by first | exact op_storeOP (r := [_, _, _, _, _, _, _, _, _]) rfl Tryz.sizeOf122 rfl rfl rfl rfl rfl (by decide) | exact op_storeS2p (c2 := [_, _, _, _, _, _, _, _, _]) hpq hp rfl Tryz.sizeOf122 rfl rfl rfl rfl (by decide))) ?_
    refine zon ?_
    refine AWp_seq ?_
    refine AWp_heap (σ' := S2 σ p q (.box [.arr q (N + 1 + ex.length) 4 0 (N + 1 + ex.length)]) (.arr 4 (N + 1 + ex.length) (rows ++ hd4 path (decide (v.kind = 1)) (decide (v.kind = 1) && v.b) (.arr (σ.length + 1) ks.length 10 0 ks.length) :: noder ex).flatten) ++ [.box [.int .i64 v.kind, .bool v.b, .bool v.n.neg, .str v.n.digits, .int .i64 v.n.exp, .str v.s, .sl false 8 (lcells v.l), .sl false 9 (mcells v.m)], .arr 10 ks.length (keyr ks).flatten, .box [.str w.1, .int .i64 w.2.kind, .bool w.2.b, .bool w.2.n.neg, .str w.2.n.digits, .int .i64 w.2.n.exp, .str w.2.s, .sl false 8 (lcells w.2.l), .sl false 9 (mcells w.2.m)]]) rfl ?_
    have hH : ∀ H : List AO, H = S2 σ p q (.box [.arr q (N + 1 + ex.length) 4 0 (N + 1 + ex.length)]) (.arr 4 (N + 1 + ex.length) (rows ++ hd4 path (decide (v.kind = 1)) (decide (v.kind = 1) && v.b) (.arr (σ.length + 1) ks.length 10 0 ks.length) :: noder ex).flatten) ++ ([.box [.int .i64 v.kind, .bool v.b, .bool v.n.neg, .str v.n.digits, .int .i64 v.n.exp, .str v.s, .sl false 8 (lcells v.l), .sl false 9 (mcells v.m)], .arr 10 ks.length (keyr ks).flatten, .box [.str w.1, .int .i64 w.2.kind, .bool w.2.b, .bool w.2.n.neg, .str w.2.n.digits, .int .i64 w.2.n.exp, .str w.2.s, .sl false 8 (lcells w.2.l), .sl false 9 (mcells w.2.m)]] : List AO) → closed H.length H := fun H e => by subst e; exact closed_S2H 3 rfl hp hq hc0 (by simp [AO.cells, AV.ltL, AV.lt]; omega) (open_lt (AV.ltL_mono (by omega) _ hrlt) _ _ _ (by simp [AV.lt]) _) (by simp [ownLt, AO.cells, AV.ltL, AV.lt])
    cases hpk : pkey (pnd n) path w.1 w.2 (N + 1 + ex.length) with
    | mk kd z =>
    obtain ⟨e2, c2, p2⟩ := z
    refine AWp_regL ?_
    refine zg3 ?_
    refine zt rfl (op_loadK (cs := [_, _, _, _, _, _, _, _, _]) rfl Tryz.isAgg122 Tryz.sizeOf122 (by first | exact ldv_ownP rfl rfl | exact ldv_pp rfl | exact ldv_ptr (S2_pA hpq hp) rfl | exact ldv_ptr (S3_pA hpq hpr hp) rfl)) ?_
    refine zt rfl (zc rfl (callS3S2 hpq hp hq 1 (vcells_eq w.2 ▸ skey_s n ih w.1 w.2 path (rows ++ hd4 path (decide (v.kind = 1)) (decide (v.kind = 1) && v.b) (.arr (σ.length + 1) ks.length 10 0 ks.length) :: noder ex) (N + 1 + ex.length) p q (σ.length + 1) N ks path (decide (v.kind = 1)) (decide (v.kind = 1) && v.b) kd e2 c2 p2 _ (hH _ rfl) (S2_pA hpq hp) (S2_qA hq) (by rw [get_ownP]; rfl) (by rw [List.length_append, List.length_cons, noder_len, hrl]; omega) (rows_el2 hre _ _ _ _ _) (mid_get hrl _ _) hz3 (by omega) (by omega) hqb.2 (mayM_get hjm hw) hqb.1 (by omega) hpk))) ?_
    refine zv1 ?_
    refine AWp_seq ?_
    rw [open_app hrl]
    refine AWp_regL ?_
    refine zg1 ?_
    refine zt rfl (op_neSpE rfl Tryz.underlying33 rfl) ?_
    refine zon ?_
    refine AWp_cond rfl (fun h4 => ?_) (fun h4 => ?_)
    ·(try rw [h4]); replace h4 := zcl h4
     have h4 : ¬ c2 = 0 := by simpa using h4
     refine AWp_seq ?_
     rw [kadd_n _ _ _ _ h4]
     refine AWp_freezeS2 (N * 4 + 3) 1 ks.length 10 ks.length hq (open_get hre hrl _ _ _ _ _) rfl (keyr ks) rfl (keyr_el _) (keyr_len _) (by decide) ?_
     rw [open_set hre hrl, open_end]
     refine AWp_regL ?_
     refine zv2 ?_
     refine zrt ?_
     have hpn2 := (pnd_g (by omega) (hz2.symm.trans (pmems_b hpk h4))).symm.trans hpn
     obtain ⟨rfl, rfl, rfl⟩ : _ = ext ∧ c2 = code ∧ p2 = pp := by simpa using hpn2
     rw [open_len]
     refine ResQ_P (v := spE (c2, p2)) rfl (closed_S2 hc0 (by simp [AO.cells, AV.ltL, AV.lt]; omega) ?_) ?_ ⟨rfl, ?_⟩
     ·show AV.ltL _ (_ ++ _ : List (List AV)).flatten
      rw [List.flatten_append, ltL_append]; exact ⟨hrlt, nflat_lt _ _⟩
     ·rw [spE_n _ h4]; simp [AV.lt, AV.ltL]
     ·simp only [List.length_append, Nat.add_assoc]
    ·(try rw [h4]); replace h4 := zcl h4
     have h4 : c2 = 0 := by simpa using h4
     refine AWp_skip ?_
     refine AWp_regL ?_
     refine zv2 ?_
     rw [hpk] at hpkl
     simp only at hpkl
     rw [kadd_0 _ _ _ _ h4]
     refine ⟨(i + 1, ks ++ [⟨w.1, w.2, kd⟩], ex ++ e2), σ.length + 2, ⟨by simp only; omega, ?_, by simp only [List.length_append]; omega, by simp only [List.length_append, List.length_singleton]; omega⟩, by simp only; omega, by simp [S2_len], ⟨rfl, rfl, rfl, rfl, rfl, rfl, rfl, rfl, rfl, trivial⟩, closed_S2k 2 hp hq hc0 (by simp [AO.cells, AV.ltL, AV.lt]; omega) (open_lt (AV.ltL_mono (by omega) _ hrlt) _ _ _ (by simp [AV.lt]) _) ?_, ?_, ?_⟩
     ·simp only; rw [← hz2, pmems_g hpk h4]
     ·simp [ownLt, AO.cells, AV.ltL, AV.lt, ltL_append]
     ·simp [ltE, AV.lt, AV.ltL]; omega
     ·refine (take_ownP 2).trans ?_
      simp only [List.length_append, Nat.add_assoc]; rfl
   ·(try rw [h3]); replace h3 := zcl h3
    refine AWp_exit ?_
    refine AWp_seq ?_
    refine AWp_freezeS2 (N * 4 + 3) 1 ks.length 10 ks.length hq (open_get hre hrl _ _ _ _ _) rfl (keyr ks) rfl (keyr_el _) (keyr_len _) (by decide) ?_
    rw [open_set hre hrl, open_end]
    refine AWp_regL ?_
    refine zv1 ?_
    refine zrt ?_
    have hpm : pmems (pnd n) path (N + 1) v.m [] [] = (ks, ex, 0, e0) := by rw [← hz2, List.drop_eq_nil_of_le (by omega)]; rfl
    have hpn2 := (pnd_g (by omega) hpm).symm.trans hpn
    obtain ⟨rfl, rfl, rfl⟩ : _ = ext ∧ (0 : Int) = code ∧ e0 = pp := by simpa using hpn2
    rw [open_len, spE_0 _ rfl]
    refine ResQ_P (v := .nili) rfl (closed_S2 hc0 (by simp [AO.cells, AV.ltL, AV.lt]; omega) ?_) ?_ ⟨rfl, ?_⟩
    ·show AV.ltL _ (_ ++ _ : List (List AV)).flatten
     rw [List.flatten_append, ltL_append]; exact ⟨hrlt, nflat_lt _ _⟩
    ·trivial
    ·rfl
end Lg
namespace Lg
open Go
def vT : JV := .mk 1 true {} e0 [] []
def one11 : JNode := ⟨e0, true, true, []⟩
theorem pcomp_T : pcomp vT = ([one11], 0, e0) := by
  have hj : (jsize vT).toNat = 1 := by simp [vT, jsize, lsize, msize]
  have h : pnd 1 e0 vT 0 = ([one11], 0, e0) := pnd_g (n := 0) (by decide) rfl
  have hs : ¬ schB vT = false := by decide
  unfold pcomp
  rw [hj, h, if_neg hs, if_neg (fun z => z rfl)]
theorem pcomp_Z : pcomp vz = ([], 14, e0) := by
  unfold pcomp
  rw [if_pos (by decide)]
theorem jcomp_nil {v : JV} (h : ¬ (jcomp v).2.1 = 0) : (jcomp v).1 = [] := by
  unfold jcomp at h ⊢
  split
  · rfl
  · rename_i h1
    rw [if_neg h1] at h
    split
    · rfl
    · rename_i h2; rw [if_neg h2] at h; exact absurd rfl h
theorem jcomp_0 {v : JV} (h : (jcomp v).2.1 = 0) : (jcomp v).2.2 = e0 := by
  unfold jcomp at h ⊢
  split
  · rfl
  · rename_i h1
    rw [if_neg h1] at h
    split
    · rename_i h2; rw [if_pos h2] at h; exact absurd h h2
    · rfl
section
variable [GLay]
theorem jcomp_KZ {v : JV} (hb : jb v) (hs : jst v) (hsz : jsize v ≤ 10000) : (jcomp v).1.length ≤ 1000000 ∧ ∀ n ∈ (jcomp v).1, KZ n := by
  by_cases h : (jcomp v).2.1 = 0
  · have hk := jcomp_ok hb hs hsz h
    exact ⟨by have := hk.le; omega, hk.kz⟩
  · rw [jcomp_nil h]; exact ⟨by simp, fun n hn => by cases hn⟩
end
end Lg
set_option maxRecDepth 20000
set_option maxHeartbeats 4000000
namespace Lg
open Go Go.Proofs Go.RowKit
variable [GLay] [ML] [ET] [S10]
theorem snode_any : ∀ (n : Nat) (v : JV) (path : ByteArray) (rows : List (List AV)) (N p q : Nat) (ext : List JNode) (code : Int) (pp : ByteArray) (σ : List AO), closed σ.length σ → σ[p]? = some (.box [.arr q (N) 4 0 (N)]) → σ[q]? = some (.arr 4 N rows.flatten) → rows.length = N → (∀ e ∈ rows, e.length = 4) → N ≤ 200 → jsize v ≤ n → jb v → jmay v → path.size + 4000010 * (jsize v).toNat ≤ 100000000000 → pnd (n) path v N = (ext, code, pp) → ACalls Tryz.prog 37 [.ptr p 0, .str path, .agg (vcells v)] σ (Ret (spE (code, pp)) (S2 σ p q (.box [.arr q (N + ext.length) 4 0 (N + ext.length)]) (.arr 4 (N + ext.length) (rows ++ noder ext).flatten)))
  | 0, v, path, rows, N, p, q, ext, code, pp, σ, _, _, _, _, _, _, h, _, _, _, _ => by have := jsize_pos v; omega
  | n + 1, v, path, rows, N, p, q, ext, code, pp, σ, hc, h1, h2, h3, h4, h5, h6, h7, h8, h9, h10 => snode_s n (snode_any n) v path rows N p q ext code pp σ hc h1 h2 h3 h4 h5 (by omega) h7 h8 h9 h10
theorem snode_at (v : JV) (a : AO) (ext : List JNode) (code : Int) (pp : ByteArray) (σ : List AO) (hc : closed σ.length σ) (ha : AV.ltL (σ.length + 3) a.cells) (hjb : jb v) (hjm : jmay v) (hsz : jsize v ≤ 10000) (h : pnd (jsize v).toNat e0 v 0 = (ext, code, pp)) : ACalls Tryz.prog 37 [.ptr (σ.length + 1) 0, .str e0, .agg (vcells v)] (σ ++ [a, .box [.arr (σ.length + 2) 0 4 0 0], .arr 4 0 []]) (Ret (spE (code, pp)) (σ ++ [a, .box [.arr (σ.length + 2) ext.length 4 0 ext.length], .arr 4 ext.length (noder ext).flatten])) := by
  have hj := jsize_pos v
  have hcl : closed (σ ++ ([a, .box [.arr (σ.length + 2) 0 4 0 0], .arr 4 0 []] : List AO)).length (σ ++ [a, .box [.arr (σ.length + 2) 0 4 0 0], .arr 4 0 []]) := by
    rw [List.length_append]; exact closed_own 3 hc (by simp [ownLt, AO.cells, AV.ltL, AV.lt]; exact ha)
  have h1 := snode_any (jsize v).toNat v e0 [] 0 (σ.length + 1) (σ.length + 2) ext code pp _ hcl (by rw [get_own]; rfl) (by rw [get_own]; rfl) rfl (fun e he => by cases he) (by decide) (by omega) hjb hjm (by show 0 + _ ≤ _; omega) h
  unfold S2 at h1
  rw [set_own, set_own] at h1
  simpa using h1
theorem scomp_c (v : JV) (cs : List AV) (σ : List AO) (hc : vcells v = cs) (hjb : jb v) (hjm : jmay v) (hsz : jsize v ≤ 10000) : ACalls Tryz.prog 11 [.agg cs] σ (Ret (.tup [.sl false 4 (noder (pcomp v).1), spE (pcomp v).2]) σ) := by
 refine ACalls_body Tryz.func11 rfl Tryz.ntmps11 (res2 Tryz.results11) (Nat.le_of_ble_eq_true rfl) (fun hcl hal => ?_)
 subst hc
 rw [vcells_eq v]
 refine zw3 ?_
 refine AWp_seq ?_
 refine AWp_join (ι := Unit) (fun b => True) (fun b => ⟨[], [(1, .ptr (σ.length + 0) 0), (2, .nils), (3, .nili), (13, .bool (!schB v))]⟩) (fun b => σ ++ [.box [.int .i64 v.kind, .bool v.b, .bool v.n.neg, .str v.n.digits, .int .i64 v.n.exp, .str v.s, .sl false 8 (lcells v.l), .sl false 9 (mcells v.m)]]) ?_ (fun b hj => ?_)
 ·skip
  refine AWp_regL ?_
  refine zg4 ?_
  refine zsp 9 rfl (fun h1 => ?_) fun h1 => ?_
  ·rw [h1]; replace h1 := zcl h1
   refine zv4 ?_
   exact ⟨(), trivial, ⟨rfl, rfl, rfl, rfl, congrArg AV.bool (by simp_all [schB]), trivial⟩, rfl⟩
  ·rw [h1]; replace h1 := zcl h1
   refine zv4 ?_
   exact ⟨(), trivial, ⟨rfl, rfl, rfl, rfl, congrArg AV.bool (by simp_all [schB]), trivial⟩, rfl⟩
 ·skip
  refine AWp_cond rfl (fun h2 => ?_) (fun h2 => ?_)
  ·(try rw [h2]); replace h2 := zcl h2
   have hs : schB v = false := by simpa using h2
   refine zsr ?_
   refine zt rfl (zc rfl (scfail_c e0 14 _ (by decide))) ?_
   refine zv2 ?_
   refine AWp_slotLe 2 rfl (AVle.nils false 4) ?_ (by decide)
   refine zrt ?_
   have hpc : pcomp v = ([], 14, e0) := by unfold pcomp; rw [if_pos hs]
   rw [hpc, spE_n _ (by decide)]
   exact ResQ_2 rfl rfl hcl (by simp [AV.lt, AV.ltL, AV.ltLL]) ⟨rfl, rfl⟩
  ·(try rw [h2]); replace h2 := zcl h2
   have hs : ¬ schB v = false := by simpa using h2
   refine AWp_skip ?_
   refine zw3 ?_
   refine AWp_seq ?_
   refine AWp_seq ?_
   refine AWp_ghostInO 1 0 4 2 rfl rfl rfl ?_
   refine AWp_heap (σ' := σ ++ [.box [.int .i64 v.kind, .bool v.b, .bool v.n.neg, .str v.n.digits, .int .i64 v.n.exp, .str v.s, .sl false 8 (lcells v.l), .sl false 9 (mcells v.m)], .box [.arr (σ.length + 2) 0 4 0 0], .arr 4 0 []]) rfl ?_
   cases hpn : pnd (jsize v).toNat e0 v 0 with
   | mk ext z =>
   obtain ⟨code, pp⟩ := z
   refine AWp_regL ?_
   refine zg2 ?_
   refine zt rfl (zc rfl (vcells_eq v ▸ snode_at v (.box [.int .i64 v.kind, .bool v.b, .bool v.n.neg, .str v.n.digits, .int .i64 v.n.exp, .str v.s, .sl false 8 (lcells v.l), .sl false 9 (mcells v.m)]) ext code pp σ hcl (by simp [AO.cells, AV.ltL, AV.lt]) hjb hjm hsz hpn)) ?_
   refine zv1 ?_
   refine zu1 ?_
   refine zt rfl (op_neSpE rfl Tryz.underlying33 rfl) ?_
   refine zon ?_
   refine AWp_cond rfl (fun h3 => ?_) (fun h3 => ?_)
   ·(try rw [h3]); replace h3 := zcl h3
    have h3 : ¬ code = 0 := by simpa using h3
    refine zw3 ?_
    refine AWp_slotLe 2 rfl (AVle.nils false 4) ?_ (by decide)
    refine zrt ?_
    have hpc : pcomp v = ([], code, pp) := by unfold pcomp; rw [if_neg hs, hpn, if_pos h3]
    rw [hpc, spE_n _ h3]
    exact ResQ_2 rfl rfl hcl (by simp [AV.lt, AV.ltL, AV.ltLL]) ⟨rfl, rfl⟩
   ·(try rw [h3]); replace h3 := zcl h3
    have h3 : code = 0 := by simpa using h3
    refine AWp_skip ?_
    refine zw6 ?_
    refine AWp_freezeAO 2 2 ext.length 4 ext.length (noder ext) rfl rfl (noder_el _) (noder_len _) (by decide) ?_ (by decide)
    refine zrt ?_
    have hpc : pcomp v = (ext, 0, e0) := by unfold pcomp; rw [if_neg hs, hpn, if_neg (fun z => z h3)]
    rw [hpc, spE_0 _ rfl]
    exact ResQ_2 rfl rfl hcl (by simp [AV.lt, AV.ltL]) ⟨rfl, rfl⟩
end Lg
set_option maxRecDepth 20000
set_option maxHeartbeats 4000000
namespace Lg
open Go Go.Proofs Go.RowKit
variable [GLay] 
theorem node_any : ∀ (n : Nat) (v : JV) (path : ByteArray) (m : MS) (σ : List AO), closed σ.length σ → jsize v ≤ n → jb v → path.size + 4000010 * (jsize v).toNat ≤ 100000000000 → m.l.length ≤ 200 → ACalls Tryz.prog 39 [.ptr (σ.length + 0) 0, .str path, .agg (vcells v)] (σ ++ [.box [.arr (σ.length + 1) m.l.length 4 0 m.l.length, .int .i64 m.bad, .str m.path], .arr 4 m.l.length (noder m.l).flatten]) (Ret (.tup []) (σ ++ [.box [.arr (σ.length + 1) (rnd n path v m).l.length 4 0 (rnd n path v m).l.length, .int .i64 (rnd n path v m).bad, .str (rnd n path v m).path], .arr 4 (rnd n path v m).l.length (noder (rnd n path v m).l).flatten]))
  | 0, v, path, m, σ, hc, hn, _, _, _ => by have := jsize_pos v; omega
  | n + 1, v, path, m, σ, hc, hn, hjb, hps, hml => node_s n (node_any n) v path m σ hc (by omega) hjb hps hml
theorem node_at (a : AO) (v : JV) (path : ByteArray) (m : MS) (σ : List AO) (hc : closed σ.length σ) (ha : AV.ltL (σ.length + 1) a.cells) (hjb : jb v) (hps : path.size + 4000010 * (jsize v).toNat ≤ 100000000000) (hml : m.l.length ≤ 200) : ACalls Tryz.prog 39 [.ptr (σ.length + 1) 0, .str path, .agg (vcells v)] (σ ++ [a, .box [.arr (σ.length + 2) m.l.length 4 0 m.l.length, .int .i64 m.bad, .str m.path], .arr 4 m.l.length (noder m.l).flatten]) (Ret (.tup []) (σ ++ [a, .box [.arr (σ.length + 2) (rnd (jsize v).toNat path v m).l.length 4 0 (rnd (jsize v).toNat path v m).l.length, .int .i64 (rnd (jsize v).toNat path v m).bad, .str (rnd (jsize v).toNat path v m).path], .arr 4 (rnd (jsize v).toNat path v m).l.length (noder (rnd (jsize v).toNat path v m).l).flatten])) := by
  have hj := jsize_pos v
  have h := node_any (jsize v).toNat v path m (σ ++ [a]) (by
    have := closed_own (l := [a]) 1 hc (by simp [ownLt]; exact ha)
    simpa using this) (by omega) hjb hps hml
  simpa [List.append_assoc, Nat.add_assoc] using h
theorem rcomp_c (v : JV) (cs : List AV) (σ : List AO) (hc : vcells v = cs) (hjb : jb v) (hsz : jsize v ≤ 10000) : ACalls Tryz.prog 12 [.agg cs] σ (Ret (.tup [.sl false 4 (noder (jcomp v).1), .int .i64 (jcomp v).2.1, .str (jcomp v).2.2]) σ) := by
 refine ACalls_body Tryz.func12 rfl Tryz.ntmps12 (res3 Tryz.results12) (Nat.le_of_ble_eq_true rfl) (fun hcl hal => ?_)
 subst hc
 rw [vcells_eq v]
 have hro := rnd_ok (jsize v).toNat e0 v (⟨[], 0, e0⟩ : MS) (by decide)
 refine zw4 ?_
 refine zu1 ?_
 refine zt rfl (zc rfl (vcells_eq v ▸ rsch_c v _)) ?_
 refine zv1 ?_
 refine AWp_seq ?_
 refine zw2 ?_
 refine AWp_cond rfl (fun h1 => ?_) (fun h1 => ?_)
 ·(try rw [h1]); replace h1 := zcl h1
  have hs : schB v = false := by simpa using h1
  refine zw3 ?_
  refine AWp_slotLe 2 rfl (AVle.nils false 4) ?_ (by decide)
  refine zrt ?_
  rw [jcomp_n hs]
  exact ResQ_3 rfl rfl rfl hcl (by simp [AV.lt, AV.ltL, AV.ltLL]) ⟨rfl, rfl⟩
 ·(try rw [h1]); replace h1 := zcl h1
  have hs : schB v = true := by simpa using h1
  refine AWp_skip ?_
  refine zw3 ?_
  refine AWp_seq ?_
  refine AWp_ghostInO 1 0 4 2 rfl rfl rfl ?_
  refine AWp_heap (σ' := σ ++ [.box [.int .i64 v.kind, .bool v.b, .bool v.n.neg, .str v.n.digits, .int .i64 v.n.exp, .str v.s, .sl false 8 (lcells v.l), .sl false 9 (mcells v.m)], .box [.arr (σ.length + 2) (⟨[], 0, e0⟩ : MS).l.length 4 0 (⟨[], 0, e0⟩ : MS).l.length, .int .i64 (⟨[], 0, e0⟩ : MS).bad, .str (⟨[], 0, e0⟩ : MS).path], .arr 4 (⟨[], 0, e0⟩ : MS).l.length (noder (⟨[], 0, e0⟩ : MS).l).flatten]) rfl ?_
  refine AWp_regL ?_
  refine zg2 ?_
  refine zt rfl (zc rfl (vcells_eq v ▸ node_at (.box [.int .i64 v.kind, .bool v.b, .bool v.n.neg, .str v.n.digits, .int .i64 v.n.exp, .str v.s, .sl false 8 (lcells v.l), .sl false 9 (mcells v.m)]) v e0 (⟨[], 0, e0⟩ : MS) σ hcl (by simp [AO.cells, AV.ltL, AV.lt]) hjb (by show 0 + _ ≤ _; omega) (by decide))) ?_
  refine zon ?_
  refine AWp_seq ?_
  refine AWp_seq ?_
  refine AWp_heap (σ' := σ ++ [.box [.int .i64 v.kind, .bool v.b, .bool v.n.neg, .str v.n.digits, .int .i64 v.n.exp, .str v.s, .sl false 8 (lcells v.l), .sl false 9 (mcells v.m)], .box [.arr (σ.length + 2) (rnode v).l.length 4 0 (rnode v).l.length, .int .i64 (rnode v).bad, .str (rnode v).path], .arr 4 (rnode v).l.length (noder (rnode v).l).flatten]) rfl ?_
  refine AWp_regL ?_
  refine zv5 ?_
  refine AWp_cond rfl (fun h2 => ?_) (fun h2 => ?_)
  ·(try rw [h2]); replace h2 := zcl h2
   refine AWp_seq ?_
   refine AWp_drawL #[0, 1, 3, 7, 0, 16, 48, 112, 0, 271, 1023] Tryz.mixed (by decide +kernel) (by decide +kernel) ?_
   refine zd3 ?_
   refine zp1 ?_
   refine zd3 ?_
   refine zp1 ?_
   refine zd3 ?_
   refine RP.nil rfl ?_
   refine AWp_slotLe 2 rfl (AVle.nils false 4) ?_ (by decide)
   refine zrt ?_
   rw [jcomp_b hs h2]
   exact ResQ_3 rfl rfl rfl hcl (by simp [AV.lt, AV.ltL, AV.ltLL]) ⟨rfl, rfl⟩
  ·(try rw [h2]); replace h2 := zcl h2
   refine AWp_skip ?_
   refine zw7 ?_
   refine AWp_freezeAO 2 2 (rnode v).l.length 4 (rnode v).l.length (noder (rnode v).l) rfl rfl (noder_el _) (noder_len _) (by decide) ?_ (by decide)
   refine zrt ?_
   rw [jcomp_y hs h2]
   exact ResQ_3 rfl rfl rfl hcl (by simp [AV.lt, AV.ltL]) ⟨rfl, rfl⟩
end Lg
set_option maxRecDepth 20000
set_option maxHeartbeats 4000000
namespace Lg
open Go Go.Proofs Go.RowKit
variable [GLay] 
end Lg
set_option maxRecDepth 20000
set_option maxHeartbeats 4000000
namespace Lg
open Go Go.Proofs Go.RowKit
variable [GLay] 
end Lg
set_option maxRecDepth 20000
set_option maxHeartbeats 4000000
namespace Lg
open Go Go.Proofs Go.RowKit
variable [GLay] 
end Lg
