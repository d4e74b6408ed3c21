/- A part of the proof of For every input the law doubletlaw09.ApplyParts returns true: a patch's beginning, and then the rest, is the patch: the same value, or the same error at the same operation; the value stays as it is; a test of what is there changes nothing; the input reads as it did.: S4 Y17 J3 As9 As10 Lj3 Lg57 J4 W7 J5 Q2 Q4 Q6 J6 Lj4 Lg36 Lg37 Lg38 Lg39 Lg40 Lg41 Lg42 B14 J7 VAp. -/
import Derived.Test.YtdacoelmmaiffaaGreatDoorS9
import Derived.Test.YtdacoelmmaiffaaGreatDoorS4
import Derived.Test.YtdacoelmmaiffaaGreatDoorS5
import Derived.Test.YtdacoelmmaiffaaGreatDoorS6
import Derived.Test.YtdacoelmmaiffaaGreatDoorS7
import Derived.Test.YtdacoelmmaiffaaGreatDoorS3
import Derived.Test.YtdacoelmmaiffaaGreatDoorS8
import Derived.Test.YtdacoelmmaiffaaGreatDoorProg
import Derived.WalkKit
import Derived.LaidEql
import Derived.Stop.Asserts
import Derived.RowKitTokens
import Derived.Laws.BitsLemmas
import Derived.SizedLaws
import Derived.LaidHandle
set_option linter.unusedVariables false
set_option linter.unusedSimpArgs false
set_option linter.unusedSectionVars false
set_option maxRecDepth 20000
set_option maxHeartbeats 4000000
namespace Lg
open Go Go.Proofs Go.RowKit
variable [GLay] 
theorem rsh_any (n : Nat) : ∀ (v : JV) (σ : List AO), jsize v ≤ n → jb v → jkb v → 20000000 * jsize v ≤ 100000000000000 → ACalls Tryz.prog 19 [.agg (vcells v)] σ (Ret (.str (ba (jtx v))) σ) := by
 induction n with
 | zero => intro v σ h; have := jsize_pos v; omega
 | succ n ih =>
 intro v σ hn hjb hkb hlen
 have hvs := jsize_eq v
 have hv1 := jsize_pos v
 have hl0 := lsize_nn v.l
 have hm0 := msize_nn v.m
 obtain ⟨hb1, hb2, hb3, hb4, hb5, hb6⟩ := (jb_eq v).1 hjb
 obtain ⟨hk1, hk2, hk3, hk4, hk5⟩ := (jkb_eq v).1 hkb
 refine ACalls_body Tryz.func19 rfl Tryz.ntmps19 (res1 Tryz.results19) (Nat.le_of_ble_eq_true rfl) (fun hcl hal => ?_)
 rw [vcells_eq v]
 refine zw2 ?_
 refine zw1 ?_
 refine AWp_seq ?_
 refine zw2 ?_
 refine AWp_block ?_
 refine zw2 ?_
 refine AWp_cond rfl (fun h1 => ?_) (fun h1 => ?_)
 ·(try rw [h1]); replace h1 := zcl h1
  refine zw1 ?_
  refine zrt ?_
  have hE : jtx v = nullL := by rw [jtx_eq, if_neg (by omega), if_neg (by omega), if_neg (by omega), if_neg (by omega), if_neg (by omega)]
  rw [hE]
  exact ResQ_1 rfl hcl trivial ⟨rfl, rfl⟩
 ·(try rw [h1]); replace h1 := zcl h1
  refine zw2 ?_
  refine AWp_cond rfl (fun h2 => ?_) (fun h2 => ?_)
  ·(try rw [h2]); replace h2 := zcl h2
   refine AWp_seq ?_
   refine zw2 ?_
   refine AWp_cond rfl (fun h3 => ?_) (fun h3 => ?_)
   ·(try rw [h3]); replace h3 := zcl h3
    refine zw1 ?_
    refine zrt ?_
    have hE : jtx v = trueL := by rw [jtx_eq, if_pos (by omega), if_pos (by assumption)]
    rw [hE]
    exact ResQ_1 rfl hcl trivial ⟨rfl, rfl⟩
   ·(try rw [h3]); replace h3 := zcl h3
    refine AWp_skip ?_
    refine zw1 ?_
    refine zrt ?_
    have hE : jtx v = falseL := by rw [jtx_eq, if_pos (by omega), if_neg (by simp [*])]
    rw [hE]
    exact ResQ_1 rfl hcl trivial ⟨rfl, rfl⟩
  ·(try rw [h2]); replace h2 := zcl h2
   refine zw2 ?_
   refine AWp_cond rfl (fun h4 => ?_) (fun h4 => ?_)
   ·(try rw [h4]); replace h4 := zcl h4
    refine zu2 ?_
    refine zt rfl (zc rfl (rshow_c v.n _ ⟨by omega, hk3.1, hk3.2⟩)) ?_
    refine zv1 ?_
    refine zrt ?_
    have hE : jtx v = (jshow v.n).data.toList := by rw [jtx_eq, if_neg (by omega), if_pos (by omega)]
    rw [hE, ← ba_eta]
    exact ResQ_1 rfl hcl trivial ⟨rfl, rfl⟩
   ·(try rw [h4]); replace h4 := zcl h4
    refine zw2 ?_
    refine AWp_cond rfl (fun h5 => ?_) (fun h5 => ?_)
    ·(try rw [h5]); replace h5 := zcl h5
     refine zu2 ?_
     refine zt rfl (zc rfl (rquoteT_c v.s _ (by omega))) ?_
     refine zv1 ?_
     refine zrt ?_
     have hE : jtx v = quoteL v.s.data.toList := by rw [jtx_eq, if_neg (by omega), if_neg (by omega), if_pos (by omega)]
     rw [hE]
     exact ResQ_1 rfl hcl trivial ⟨rfl, rfl⟩
    ·(try rw [h5]); replace h5 := zcl h5
     refine zw2 ?_
     refine AWp_cond rfl (fun h6 => ?_) (fun h6 => ?_)
     ·(try rw [h6]); replace h6 := zcl h6
      refine AWp_seq ?_
      refine zw1 ?_
      refine AWp_block ?_
      -- loop 0 LIVE 1:box 2:assign 3:assign 4:assign
      refine AWp_loop (ι := Nat) (fun i => i ≤ v.l.length) (fun i => ⟨[], [(1, .ptr (σ.length + 0) 0), (3, .str (ba (ljw 44 (v.l.take i)).tail)), (4, .int .i64 (i : Int))]⟩) (fun i => σ ++ [_]) (fun i => v.l.length - i) (0) (Nat.zero_le _) ?_ rfl (fun i hi => ?_)
      ·exact ⟨rfl, rfl, rfl, rfl, trivial⟩
      have hll := lcells_length v.l
      have hle := ljw_le (l := v.l) 44 hb5 hk4 i
      have htl : (ba (ljw 44 (v.l.take i)).tail).size ≤ (ljw 44 (v.l.take i)).length := by rw [ba_size, List.length_tail]; omega
      have z44 : (ByteArray.mk #[44]).size = 1 := rfl
      have z45 := ByteArray.size_append (a := ba (ljw 44 (v.l.take i)).tail) (b := ⟨#[44]⟩)
      refine AWp_seq ?_
      refine zw5 ?_
      refine AWp_cond rfl (fun h7 => ?_) (fun h7 => ?_)
      ·(try rw [h7]); replace h7 := zcl h7
       obtain ⟨x, hx⟩ : ∃ x, v.l[i]? = some x := ⟨_, List.getElem?_eq_getElem (show i < v.l.length by omega)⟩
       have hxs := lsize_mem hx
       have hjx := jtx_len x (lb_get hb5 hx) (lkb_get hk4 hx)
       refine AWp_skip ?_
       refine AWp_seq ?_
       refine AWp_block ?_
       refine AWp_seq ?_
       refine zw2 ?_
       refine AWp_cond rfl (fun h8 => ?_) (fun h8 => ?_)
       ·(try rw [h8]); replace h8 := zcl h8
        refine AWp_regL ?_
        refine zv3 ?_
        refine AWp_regL ?_
        refine zg5 ?_
        rw [vcells_eq x]
        refine zg1 ?_
        refine zt rfl (zc rfl (vcells_eq x ▸ ih x _ (by omega) (lb_get hb5 hx) (lkb_get hk4 hx) (by omega))) ?_
        have z1 : (ba (jtx x)).size = (jtx x).length := ba_size _
        refine zv2 ?_
        refine AWp_regL ?_
        refine zv3 ?_
        refine ⟨i + 1, σ.length + 1, by omega, by omega, by simp, ⟨rfl, rfl, ?_, rfl, trivial⟩, closed_own 1 hcl ?_, ?_, take_own 1⟩
        ·rw [ljw_tail hx]; refine congrArg AV.str (?_ : _ = _); first | (rw [if_neg (by omega), show (⟨#[44]⟩ : ByteArray) = ba [44] from rfl]; rw [ba_app, ba_app]) | (rw [if_pos (by omega), show i = 0 by omega]; show ba _ ++ ba _ = _; rw [ba_app]; rfl)
        ·simp [ownLt, AO.cells, AV.ltL, AV.lt]
        ·simp [ltE, AV.lt]
       ·(try rw [h8]); replace h8 := zcl h8
        refine AWp_skip ?_
        refine AWp_regL ?_
        refine zg5 ?_
        rw [vcells_eq x]
        refine zg1 ?_
        refine zt rfl (zc rfl (vcells_eq x ▸ ih x _ (by omega) (lb_get hb5 hx) (lkb_get hk4 hx) (by omega))) ?_
        have z1 : (ba (jtx x)).size = (jtx x).length := ba_size _
        refine zv2 ?_
        refine AWp_regL ?_
        refine zv3 ?_
        refine ⟨i + 1, σ.length + 1, by omega, by omega, by simp, ⟨rfl, rfl, ?_, rfl, trivial⟩, closed_own 1 hcl ?_, ?_, take_own 1⟩
        ·rw [ljw_tail hx]; refine congrArg AV.str (?_ : _ = _); first | (rw [if_neg (by omega), show (⟨#[44]⟩ : ByteArray) = ba [44] from rfl]; rw [ba_app, ba_app]) | (rw [if_pos (by omega), show i = 0 by omega]; show ba _ ++ ba _ = _; rw [ba_app]; rfl)
        ·simp [ownLt, AO.cells, AV.ltL, AV.lt]
        ·simp [ltE, AV.lt]
      ·(try rw [h7]); replace h7 := zcl h7
       refine AWp_exit ?_
       refine zsr ?_
       have z91 : (ByteArray.mk #[91]).size = 1 := rfl
       have z93 : (ByteArray.mk #[93]).size = 1 := rfl
       have z92 := ByteArray.size_append (a := (⟨#[91]⟩ : ByteArray)) (b := ba (ljw 44 (v.l.take i)).tail)
       refine zv4 ?_
       refine zrt ?_
       rw [jtx_4 (by omega), show i = v.l.length by omega, List.take_length]
       refine ResQ_1 rfl hcl trivial ⟨?_, rfl⟩
       rw [show (⟨#[91]⟩ : ByteArray) = ba [91] from rfl, show (⟨#[93]⟩ : ByteArray) = ba [93] from rfl, ba_app, ba_app]; simp
     ·(try rw [h6]); replace h6 := zcl h6
      refine AWp_skip ?_
      refine AWp_seq ?_
      refine zw1 ?_
      refine AWp_block ?_
      -- loop 1 LIVE 1:box 2:assign 3:assign 5:assign
      refine AWp_loop (ι := Nat) (fun i => i ≤ v.m.length) (fun i => ⟨[], [(1, .ptr (σ.length + 0) 0), (3, .str (ba (mjw 44 (v.m.take i)).tail)), (5, .int .i64 (i : Int))]⟩) (fun i => σ ++ [_]) (fun i => v.m.length - i) (0) (Nat.zero_le _) ?_ rfl (fun i hi => ?_)
      ·exact ⟨rfl, rfl, rfl, rfl, trivial⟩
      have hll := mcells_length v.m
      have hle := mjw_le (l := v.m) 44 hb6 hk5 i
      have htl : (ba (mjw 44 (v.m.take i)).tail).size ≤ (mjw 44 (v.m.take i)).length := by rw [ba_size, List.length_tail]; omega
      have z44 : (ByteArray.mk #[44]).size = 1 := rfl
      have z45 := ByteArray.size_append (a := ba (mjw 44 (v.m.take i)).tail) (b := ⟨#[44]⟩)
      refine AWp_seq ?_
      refine zw5 ?_
      refine AWp_cond rfl (fun h9 => ?_) (fun h9 => ?_)
      ·(try rw [h9]); replace h9 := zcl h9
       obtain ⟨q, hq⟩ : ∃ q, v.m[i]? = some q := ⟨_, List.getElem?_eq_getElem (show i < v.m.length by omega)⟩
       have hxs := msize_mem hq
       have hqb := mb_get hb6 hq
       have hjx := jtx_len q.2 hqb.2 (mkb_get hk5 hq)
       have z6 : (ba (jtx q.2)).size = (jtx q.2).length := ba_size _
       refine AWp_skip ?_
       refine AWp_seq ?_
       refine AWp_block ?_
       refine AWp_seq ?_
       refine zw2 ?_
       refine AWp_cond rfl (fun h10 => ?_) (fun h10 => ?_)
       ·(try rw [h10]); replace h10 := zcl h10
        refine AWp_regL ?_
        refine zv3 ?_
        refine AWp_drawL #[0, 0, 2, 0, 14, 30, 62, 126, 255, 511, 0, 1024, 0, 7168, 15360, 31744, 64766, 131071, 262143] Tryz.mixed (by decide +kernel) (by decide +kernel) ?_
        refine zd2 ?_
        refine zp1 ?_
        refine zd3 ?_
        refine zp1 ?_
        refine yP rfl rfl (zc rfl (rquoteT_c q.1 _ hqb.1)) (trivial) ?_
        have z2 : (ba (quoteL q.1.data.toList)).size = (quoteL q.1.data.toList).length := ba_size _
        have z3 := quote_size hqb.1
        have z58 : (ByteArray.mk #[58]).size = 1 := rfl
        refine zd3 ?_
        refine zp1 ?_
        refine zd3 ?_
        rw [vcells_eq q.2]
        refine zp1 ?_
        refine yP rfl rfl (zc rfl (vcells_eq q.2 ▸ ih q.2 _ (by omega) hqb.2 (mkb_get hk5 hq) (by omega))) (trivial) ?_
        refine zd2 ?_
        refine RP.nil rfl ?_
        refine AWp_regL ?_
        refine zv3 ?_
        refine ⟨i + 1, σ.length + 1, by omega, by omega, by simp, ⟨rfl, rfl, ?_, rfl, trivial⟩, closed_own 1 hcl ?_, ?_, take_own 1⟩
        ·rw [mjw_tail hq]; refine congrArg AV.str (?_ : _ = _); first | (rw [if_neg (by omega), show (⟨#[44]⟩ : ByteArray) = ba [44] from rfl]; rw [show (⟨#[58]⟩ : ByteArray) = ba [58] from rfl, ba_app, ba_app, ba_app, ba_app]; simp) | (rw [if_pos (by omega), show i = 0 by omega]; rw [show (⟨#[58]⟩ : ByteArray) = ba [58] from rfl, ba_app, ba_app, ba_app]; simp [mjw])
        ·simp [ownLt, AO.cells, AV.ltL, AV.lt]
        ·simp [ltE, AV.lt]
       ·(try rw [h10]); replace h10 := zcl h10
        refine AWp_skip ?_
        refine AWp_drawL #[0, 0, 2, 0, 14, 30, 62, 126, 255, 511, 0, 1024, 0, 7168, 15360, 31744, 64766, 131071, 262143] Tryz.mixed (by decide +kernel) (by decide +kernel) ?_
        refine zd2 ?_
        refine zp1 ?_
        refine zd3 ?_
        refine zp1 ?_
        refine yP rfl rfl (zc rfl (rquoteT_c q.1 _ hqb.1)) (trivial) ?_
        have z2 : (ba (quoteL q.1.data.toList)).size = (quoteL q.1.data.toList).length := ba_size _
        have z3 := quote_size hqb.1
        have z58 : (ByteArray.mk #[58]).size = 1 := rfl
        refine zd3 ?_
        refine zp1 ?_
        refine zd3 ?_
        rw [vcells_eq q.2]
        refine zp1 ?_
        refine yP rfl rfl (zc rfl (vcells_eq q.2 ▸ ih q.2 _ (by omega) hqb.2 (mkb_get hk5 hq) (by omega))) (trivial) ?_
        refine zd2 ?_
        refine RP.nil rfl ?_
        refine AWp_regL ?_
        refine zv3 ?_
        refine ⟨i + 1, σ.length + 1, by omega, by omega, by simp, ⟨rfl, rfl, ?_, rfl, trivial⟩, closed_own 1 hcl ?_, ?_, take_own 1⟩
        ·rw [mjw_tail hq]; refine congrArg AV.str (?_ : _ = _); first | (rw [if_neg (by omega), show (⟨#[44]⟩ : ByteArray) = ba [44] from rfl]; rw [show (⟨#[58]⟩ : ByteArray) = ba [58] from rfl, ba_app, ba_app, ba_app, ba_app]; simp) | (rw [if_pos (by omega), show i = 0 by omega]; rw [show (⟨#[58]⟩ : ByteArray) = ba [58] from rfl, ba_app, ba_app, ba_app]; simp [mjw])
        ·simp [ownLt, AO.cells, AV.ltL, AV.lt]
        ·simp [ltE, AV.lt]
      ·(try rw [h9]); replace h9 := zcl h9
       refine AWp_exit ?_
       refine zsr ?_
       have z91 : (ByteArray.mk #[123]).size = 1 := rfl
       have z93 : (ByteArray.mk #[125]).size = 1 := rfl
       have z92 := ByteArray.size_append (a := (⟨#[123]⟩ : ByteArray)) (b := ba (mjw 44 (v.m.take i)).tail)
       refine zv4 ?_
       refine zrt ?_
       rw [jtx_5 (by omega), show i = v.m.length by omega, List.take_length]
       refine ResQ_1 rfl hcl trivial ⟨?_, rfl⟩
       rw [show (⟨#[123]⟩ : ByteArray) = ba [123] from rfl, show (⟨#[125]⟩ : ByteArray) = ba [125] from rfl, ba_app, ba_app]; simp
end Lg
set_option maxRecDepth 20000
set_option maxHeartbeats 4000000
namespace Lg
open Go Go.Proofs Go.RowKit
variable [GLay] 
theorem op_neCer {P : Program} {σ : List AO} {e : Env} {o : Oper} {T T' : TypeId} {x : Operand} {ms : Array (String × TypeId)} {k : Int} (ho : o.op = .binOp .neq T x (.const .nilIface) T') (hu : P.underlying T = some (.interface ms)) (hx : opO e x = some (cerJ k)) : AOp P σ e o (.bool (decide (¬ k = 0))) σ := by
  unfold cerJ at hx
  by_cases h : k = 0
  · rw [if_pos h] at hx; rw [decide_eq_false (fun z => z h)]; exact op_neINil ho hu hx
  · rw [if_neg h] at hx; rw [decide_eq_true h]; exact op_neIN ho hu hx
theorem cerJ_lt (n : Nat) (k : Int) : (cerJ k).lt n := by unfold cerJ; split <;> trivial
end Lg
set_option maxRecDepth 20000
set_option maxHeartbeats 4000000
namespace Lg
open Go Go.Proofs Go.RowKit
variable [GLay] 
theorem mv_c (o : JOp) (os : List AV) (hos : ocells o = os) (hob : OPB o) (v : JV) (cs : List AV) (σ : List AO) (hc : vcells v = cs) (hjb : jb v) (hst : jst v) (hsz : jsize v ≤ 3000) : ACalls Tryz.prog 77 [.agg cs, .agg os] σ (Ret (.tup [.agg (vcells (pmv v o).1), cerJ (pmv v o).2]) σ) := by
 refine ACalls_bodyC Tryz.func77 rfl Tryz.ntmps77 (by rw [Tryz.results77]; exact (.ck Tryz.isAgg28 Tryz.sizeOf28 (.t .nil))) (Nat.le_of_ble_eq_true rfl) (fun hcl hal => ?_)
 subst hc
 subst hos
 rw [vcells_eq v, ocells_eq o]
 have hpl := srow_len o.pa
 have hfl := srow_len o.fr
 have hb1 := hob.pa
 have hb2 := hob.fr
 refine zw4 ?_
 refine AWp_join (ι := Unit) (fun b => ¬ (o.fr.length < o.pa.length ∧ o.pa.take o.fr.length = o.fr)) (fun b => ⟨[], [(2, .ptr (σ.length + 0) 0), (3, .ptr (σ.length + 1) 0), (4, .ptr (σ.length + 2) 0)]⟩) (fun b => σ ++ [.box [.int .i64 v.kind, .bool v.b, .bool v.n.neg, .str v.n.digits, .int .i64 v.n.exp, .str v.s, .sl false 8 (lcells v.l), .sl false 9 (mcells v.m)], .box [.int .i64 o.op, .sl false 1 (srow o.pa), .sl false 1 (srow o.fr), .int .i64 o.v.kind, .bool o.v.b, .bool o.v.n.neg, .str o.v.n.digits, .int .i64 o.v.n.exp, .str o.v.s, .sl false 8 (lcells o.v.l), .sl false 9 (mcells o.v.m)], .box [.int .i64 0, .bool false, .bool false, .str ⟨#[]⟩, .int .i64 0, .str ⟨#[]⟩, .nils, .nils]]) ?_ (fun b hj => ?_)
 ·skip
  refine AWp_seq ?_
  refine AWp_drawL #[0, 1, 3, 0, 8, 24, 63, 127, 255, 511, 255, 1279, 3327, 8191, 255, 16639, 65535, 131071] Tryz.mixed (by decide +kernel) (by decide +kernel) ?_
  refine zd1 ?_
  refine zp1 ?_
  refine zd2 ?_
  refine zp1 ?_
  refine zd3 ?_
  refine zspr 16 rfl (fun h1 => ?_) fun h1 => ?_
  ·rw [h1]; replace h1 := zcl h1
   refine zd1 ?_
   refine zp1 ?_
   refine zd1 ?_
   refine zp1 ?_
   refine zd1 ?_
   refine yAG rfl rfl rfl (fun _ => (by first | exact op_sliceSl _ _ rfl Tryz.underlying31 Tryz.sizeOf9 rfl (by first | exact ⟨_, rfl⟩ | rfl) (by first | exact ⟨_, rfl⟩ | rfl) (by omega) (by omega) (by omega) | exact op_sliceArr _ _ rfl Tryz.underlying31 Tryz.sizeOf9 rfl GET (by first | exact ⟨_, rfl⟩ | rfl) (by first | exact ⟨_, rfl⟩ | rfl) (by omega) (by omega) (by omega))) ?_
   refine zd1 ?_
   refine zp1 ?_
   refine yPG rfl rfl rfl (zc rfl (seq_c _ _ (o.pa.take o.fr.length) o.fr _ _ _ (by rw [hfl]; simp [srow, List.map_take]) rfl (by rw [List.length_take]; omega) (by omega))) (trivial) ?_
   refine zd1 ?_
   refine RP.nil rfl ?_
   refine AWp_cond rfl (fun h2 => ?_) (fun h2 => ?_)
   ·(try rw [h2]); replace h2 := zcl h2
    refine zw4 ?_
    refine AWp_boxLeO 2 (bs' := [.int .i64 vz.kind, .bool vz.b, .bool vz.n.neg, .str vz.n.digits, .int .i64 vz.n.exp, .str vz.s, .sl false 8 (lcells vz.l), .sl false 9 (mcells vz.m)]) rfl ⟨AVle.refl _, AVle.refl _, AVle.refl _, AVle.refl _, AVle.refl _, AVle.refl _, nilL, nilM, trivial⟩ ?_
    refine zrt ?_
    rw [pmv_into ⟨by omega, h2⟩, vcells_eq]
    exact RQ_ret (rkvs_cons (rkv_ck rfl rfl rfl) (rkvs_cons (rkv_t rfl) rfl)) hcl (by simp [rks, AV.lt, AV.ltL]) ⟨rfl, rfl⟩
   ·(try rw [h2]); replace h2 := zcl h2
    refine AWp_skip ?_
    exact ⟨(), fun z => h2 z.2, ⟨rfl, rfl, rfl, rfl, trivial⟩, rfl⟩
  ·rw [h1]; replace h1 := zcl h1
   refine zd10 ?_
   refine RP.nil rfl ?_
   refine AWp_condF rfl ?_
   refine AWp_skip ?_
   exact ⟨(), fun z => by omega, ⟨rfl, rfl, rfl, rfl, trivial⟩, rfl⟩
 ·skip
  have hni := hj
  clear hj
  refine zu3 ?_
  refine zt rfl (zc rfl (pget_c o.fr _ v _ _ hb2 hob.frn (vcells_eq v) hjb)) ?_
  rw [vcells_eq (jget o.fr v).1]
  refine zv6 ?_
  refine AWp_seq ?_
  refine AWp_seq ?_
  refine AWp_heap (σ' := σ ++ [.box [.int .i64 v.kind, .bool v.b, .bool v.n.neg, .str v.n.digits, .int .i64 v.n.exp, .str v.s, .sl false 8 (lcells v.l), .sl false 9 (mcells v.m)], .box [.int .i64 o.op, .sl false 1 (srow o.pa), .sl false 1 (srow o.fr), .int .i64 o.v.kind, .bool o.v.b, .bool o.v.n.neg, .str o.v.n.digits, .int .i64 o.v.n.exp, .str o.v.s, .sl false 8 (lcells o.v.l), .sl false 9 (mcells o.v.m)], .box [.int .i64 0, .bool false, .bool false, .str ⟨#[]⟩, .int .i64 0, .str ⟨#[]⟩, .nils, .nils], .box [.int .i64 (jget o.fr v).1.kind, .bool (jget o.fr v).1.b, .bool (jget o.fr v).1.n.neg, .str (jget o.fr v).1.n.digits, .int .i64 (jget o.fr v).1.n.exp, .str (jget o.fr v).1.s, .sl false 8 (lcells (jget o.fr v).1.l), .sl false 9 (mcells (jget o.fr v).1.m)]]) rfl ?_
  refine AWp_regL ?_
  refine zg1 ?_
  refine zt rfl (op_neGerr rfl Tryz.underlying35 rfl) ?_
  refine zg1 ?_
  refine zsp 38 rfl (fun h3 => ?_) fun h3 => ?_
  ·rw [h3]; replace h3 := zcl h3
   have hg : (jget o.fr v).2 = false := by simpa using h3
   refine zv6 ?_
   refine AWp_condT rfl ?_
   refine zw4 ?_
   refine zrt ?_
   rw [pmv_none hni hg, vcells_eq, hg]
   exact RQ_ret (rkvs_cons (rkv_ck rfl rfl rfl) (rkvs_cons (rkv_t rfl) rfl)) hcl (by simp [rks, AV.lt, AV.ltL, gerr_lt]) ⟨rfl, rfl⟩
  ·rw [h3]; replace h3 := zcl h3
   have hg : (jget o.fr v).2 = true := by simpa using h3
   have hg0 : ¬ (jget o.fr v).2 = false := by rw [hg]; decide
   refine zg4 ?_
   refine ztG rfl rfl (zc rfl (seq_c _ _ o.pa o.fr _ _ _ rfl rfl (by omega) (by omega))) ?_
   refine zv1 ?_
   refine AWp_cond rfl (fun h4 => ?_) (fun h4 => ?_)
   ·(try rw [h4]); replace h4 := zcl h4
    refine zw4 ?_
    refine zrt ?_
    rw [pmv_stay hni hg0 h4, vcells_eq, hg]
    exact RQ_ret (rkvs_cons (rkv_ck rfl rfl rfl) (rkvs_cons (rkv_t rfl) rfl)) hcl (by simp [rks, AV.lt, AV.ltL, gerr_lt]) ⟨rfl, rfl⟩
   ·(try rw [h4]); replace h4 := zcl h4
    refine AWp_skip ?_
    refine zu3 ?_
    refine zt rfl (zc rfl (eremJ_c vz o.fr hob.frn hb2 _ v _ _ (vcells_eq v) hjb hst)) ?_
    rw [vcells_eq (jed 2 vz o.fr v).1]
    refine zv6 ?_
    refine AWp_seq ?_
    refine AWp_seq ?_
    have hr := jed_jb (op := 2) (.inr (.inl rfl)) vz_jb0 o.fr hob.frn (by omega : jsize v ≤ 10000) hjb hst
    have hrs := jed_st (op := 2) (.inr (.inl rfl)) st_vz o.fr hst
    refine AWp_heap (σ' := σ ++ [.box [.int .i64 v.kind, .bool v.b, .bool v.n.neg, .str v.n.digits, .int .i64 v.n.exp, .str v.s, .sl false 8 (lcells v.l), .sl false 9 (mcells v.m)], .box [.int .i64 o.op, .sl false 1 (srow o.pa), .sl false 1 (srow o.fr), .int .i64 o.v.kind, .bool o.v.b, .bool o.v.n.neg, .str o.v.n.digits, .int .i64 o.v.n.exp, .str o.v.s, .sl false 8 (lcells o.v.l), .sl false 9 (mcells o.v.m)], .box [.int .i64 0, .bool false, .bool false, .str ⟨#[]⟩, .int .i64 0, .str ⟨#[]⟩, .nils, .nils], .box [.int .i64 (jget o.fr v).1.kind, .bool (jget o.fr v).1.b, .bool (jget o.fr v).1.n.neg, .str (jget o.fr v).1.n.digits, .int .i64 (jget o.fr v).1.n.exp, .str (jget o.fr v).1.s, .sl false 8 (lcells (jget o.fr v).1.l), .sl false 9 (mcells (jget o.fr v).1.m)], .box [.int .i64 (jed 2 vz o.fr v).1.kind, .bool (jed 2 vz o.fr v).1.b, .bool (jed 2 vz o.fr v).1.n.neg, .str (jed 2 vz o.fr v).1.n.digits, .int .i64 (jed 2 vz o.fr v).1.n.exp, .str (jed 2 vz o.fr v).1.s, .sl false 8 (lcells (jed 2 vz o.fr v).1.l), .sl false 9 (mcells (jed 2 vz o.fr v).1.m)]]) rfl ?_
    refine AWp_regL ?_
    refine zg1 ?_
    refine zt rfl (op_neCer rfl Tryz.underlying35 rfl) ?_
    refine zon ?_
    refine AWp_cond rfl (fun h5 => ?_) (fun h5 => ?_)
    ·(try rw [h5]); replace h5 := zcl h5
     refine zw4 ?_
     refine AWp_boxLeO 2 (bs' := [.int .i64 vz.kind, .bool vz.b, .bool vz.n.neg, .str vz.n.digits, .int .i64 vz.n.exp, .str vz.s, .sl false 8 (lcells vz.l), .sl false 9 (mcells vz.m)]) rfl ⟨AVle.refl _, AVle.refl _, AVle.refl _, AVle.refl _, AVle.refl _, AVle.refl _, nilL, nilM, trivial⟩ ?_
     refine zrt ?_
     rw [pmv_rbad hni hg0 h4 h5, vcells_eq]
     exact RQ_ret (rkvs_cons (rkv_ck rfl rfl rfl) (rkvs_cons (rkv_t rfl) rfl)) hcl (by simp [rks, AV.lt, AV.ltL, cerJ_lt]) ⟨rfl, rfl⟩
    ·(try rw [h5]); replace h5 := zcl h5
     refine AWp_skip ?_
     refine zu4 ?_
     refine zt rfl (zc rfl (eaddJ_c (jget o.fr v).1 _ (vcells_eq _) o.pa hob.pan hb1 _ (jed 2 vz o.fr v).1 _ _ (vcells_eq _) hr.1 hrs)) ?_
     rw [vcells_eq (jed 1 (jget o.fr v).1 o.pa (jed 2 vz o.fr v).1).1]
     refine zv4 ?_
     refine zrt ?_
     rw [pmv_mv hni hg0 h4 h5, vcells_eq]
     exact RQ_ret (rkvs_cons (rkv_ck rfl rfl rfl) (rkvs_cons (rkv_t rfl) rfl)) hcl (by simp [rks, AV.lt, AV.ltL, cerJ_lt]) ⟨rfl, rfl⟩

theorem tst_c (o : JOp) (os : List AV) (hos : ocells o = os) (hob : OPB o) (v : JV) (cs : List AV) (σ : List AO) (hc : vcells v = cs) (hjb : jb v) (hst : jst v) (hsz : jsize v ≤ 3000) : ACalls Tryz.prog 79 [.agg cs, .agg os] σ (Ret (.tup [.agg (vcells (pts v o).1), cerJ (pts v o).2]) σ) := by
 refine ACalls_bodyC Tryz.func79 rfl Tryz.ntmps79 (by rw [Tryz.results79]; exact (.ck Tryz.isAgg28 Tryz.sizeOf28 (.t .nil))) (Nat.le_of_ble_eq_true rfl) (fun hcl hal => ?_)
 subst hc
 subst hos
 rw [vcells_eq v, ocells_eq o]
 have hpl := srow_len o.pa
 have hfl := srow_len o.fr
 have hb1 := hob.pa
 have hb2 := hob.fr
 refine zw4 ?_
 refine zu3 ?_
 refine zt rfl (zc rfl (pget_c o.pa _ v _ _ hb1 hob.pan (vcells_eq v) hjb)) ?_
 rw [vcells_eq (jget o.pa v).1]
 refine zv6 ?_
 refine AWp_join (ι := Unit) (fun b => True) (fun b => ⟨[], [(2, .ptr (σ.length + 0) 0), (3, .ptr (σ.length + 1) 0), (4, .ptr (σ.length + 2) 0), (7, cerJ (pts v o).2)]⟩) (fun b => σ ++ [.box [.int .i64 v.kind, .bool v.b, .bool v.n.neg, .str v.n.digits, .int .i64 v.n.exp, .str v.s, .sl false 8 (lcells v.l), .sl false 9 (mcells v.m)], .box [.int .i64 o.op, .sl false 1 (srow o.pa), .sl false 1 (srow o.fr), .int .i64 o.v.kind, .bool o.v.b, .bool o.v.n.neg, .str o.v.n.digits, .int .i64 o.v.n.exp, .str o.v.s, .sl false 8 (lcells o.v.l), .sl false 9 (mcells o.v.m)], .box [.int .i64 0, .bool false, .bool false, .str ⟨#[]⟩, .int .i64 0, .str ⟨#[]⟩, .nils, .nils], .box [.int .i64 (jget o.pa v).1.kind, .bool (jget o.pa v).1.b, .bool (jget o.pa v).1.n.neg, .str (jget o.pa v).1.n.digits, .int .i64 (jget o.pa v).1.n.exp, .str (jget o.pa v).1.s, .sl false 8 (lcells (jget o.pa v).1.l), .sl false 9 (mcells (jget o.pa v).1.m)]]) ?_ (fun b hj => ?_)
 ·skip
  refine AWp_seq ?_
  refine AWp_heap (σ' := σ ++ [.box [.int .i64 v.kind, .bool v.b, .bool v.n.neg, .str v.n.digits, .int .i64 v.n.exp, .str v.s, .sl false 8 (lcells v.l), .sl false 9 (mcells v.m)], .box [.int .i64 o.op, .sl false 1 (srow o.pa), .sl false 1 (srow o.fr), .int .i64 o.v.kind, .bool o.v.b, .bool o.v.n.neg, .str o.v.n.digits, .int .i64 o.v.n.exp, .str o.v.s, .sl false 8 (lcells o.v.l), .sl false 9 (mcells o.v.m)], .box [.int .i64 0, .bool false, .bool false, .str ⟨#[]⟩, .int .i64 0, .str ⟨#[]⟩, .nils, .nils], .box [.int .i64 (jget o.pa v).1.kind, .bool (jget o.pa v).1.b, .bool (jget o.pa v).1.n.neg, .str (jget o.pa v).1.n.digits, .int .i64 (jget o.pa v).1.n.exp, .str (jget o.pa v).1.s, .sl false 8 (lcells (jget o.pa v).1.l), .sl false 9 (mcells (jget o.pa v).1.m)]]) rfl ?_
  refine AWp_regL ?_
  refine zg1 ?_
  refine zt rfl (op_eqGerr rfl Tryz.underlying35 rfl) ?_
  refine zg1 ?_
  refine zsp 17 rfl (fun h1 => ?_) fun h1 => ?_
  ·rw [h1]; replace h1 := zcl h1
   refine zg3 ?_
   refine ztG rfl rfl (zc rfl (psameP_c (jget o.pa v).1 o.v _ _ _ (vcells_eq _) (vcells_eq _) (jget_jb o.pa hjb) hob.jb)) ?_
   refine zv2 ?_
   refine AWp_cond rfl (fun h2 => ?_) (fun h2 => ?_)
   ·(try rw [h2]); replace h2 := zcl h2
    refine AWp_regL ?_
    refine zv2 ?_
    rw [pts_8 (by rw [h1]; decide) (fun e => by rw [pb_t e] at h2; cases h2)]
    exact ⟨(), trivial, ⟨rfl, rfl, rfl, rfl, rfl, trivial⟩, rfl⟩
   ·(try rw [h2]); replace h2 := zcl h2
    refine AWp_skip ?_
    rw [pts_0 (by rw [h1]; decide) ((pb_iff _).1 (by simpa using h2))]
    exact ⟨(), trivial, ⟨rfl, rfl, rfl, rfl, rfl, trivial⟩, rfl⟩
  ·rw [h1]; replace h1 := zcl h1
   refine zv6 ?_
   refine AWp_condF rfl ?_
   refine AWp_skip ?_
   rw [pts_6 h1]
   exact ⟨(), trivial, ⟨rfl, rfl, rfl, rfl, rfl, trivial⟩, rfl⟩
 ·skip
  refine zw4 ?_
  refine zrt ?_
  rw [show (pts v o).1 = v from rfl, vcells_eq]
  exact RQ_ret (rkvs_cons (rkv_ck rfl rfl rfl) (rkvs_cons (rkv_t rfl) rfl)) hcl (by simp [rks, AV.lt, AV.ltL, cerJ_lt]) ⟨rfl, rfl⟩

theorem pdo_c (o : JOp) (os : List AV) (hos : ocells o = os) (hob : OPB o) (v : JV) (cs : List AV) (σ : List AO) (hc : vcells v = cs) (hjb : jb v) (hst : jst v) (hsz : jsize v ≤ 3000) : ACalls Tryz.prog 53 [.agg cs, .agg os] σ (Ret (.tup [.agg (vcells (pdo v o).1), cerJ (pdo v o).2]) σ) := by
 refine ACalls_bodyC Tryz.func53 rfl Tryz.ntmps53 (by rw [Tryz.results53]; exact (.ck Tryz.isAgg28 Tryz.sizeOf28 (.t .nil))) (Nat.le_of_ble_eq_true rfl) (fun hcl hal => ?_)
 subst hc
 subst hos
 rw [vcells_eq v, ocells_eq o]
 have hpl := srow_len o.pa
 have hfl := srow_len o.fr
 have hb1 := hob.pa
 have hb2 := hob.fr
 have hlo := hob.lo
 have hhi := hob.hi
 refine zw4 ?_
 refine AWp_seq ?_
 refine zw2 ?_
 refine AWp_block ?_
 refine zw2 ?_
 refine AWp_cond rfl (fun h1 => ?_) (fun h1 => ?_)
 ·(try rw [h1]); replace h1 := zcl h1
  refine zu5 ?_
  refine zt rfl (zc rfl (eaddJ_c o.v _ (vcells_eq o.v) o.pa hob.pan hb1 _ v _ _ (vcells_eq v) hjb hst)) ?_
  rw [vcells_eq (jed 1 o.v o.pa v).1]
  refine zv4 ?_
  refine zrt ?_
  rw [pdo_1 h1, vcells_eq]
  exact RQ_ret (rkvs_cons (rkv_ck rfl rfl rfl) (rkvs_cons (rkv_t rfl) rfl)) hcl (by simp [rks, AV.lt, AV.ltL, cerJ_lt]) ⟨rfl, rfl⟩
 ·(try rw [h1]); replace h1 := zcl h1
  refine zw2 ?_
  refine AWp_cond rfl (fun h2 => ?_) (fun h2 => ?_)
  ·(try rw [h2]); replace h2 := zcl h2
   refine zu3 ?_
   refine zt rfl (zc rfl (eremJ_c o.v o.pa hob.pan hb1 _ v _ _ (vcells_eq v) hjb hst)) ?_
   rw [vcells_eq (jed 2 o.v o.pa v).1]
   refine zv4 ?_
   refine zrt ?_
   rw [pdo_2 h2, vcells_eq]
   exact RQ_ret (rkvs_cons (rkv_ck rfl rfl rfl) (rkvs_cons (rkv_t rfl) rfl)) hcl (by simp [rks, AV.lt, AV.ltL, cerJ_lt]) ⟨rfl, rfl⟩
  ·(try rw [h2]); replace h2 := zcl h2
   refine zw2 ?_
   refine AWp_cond rfl (fun h3 => ?_) (fun h3 => ?_)
   ·(try rw [h3]); replace h3 := zcl h3
    refine zu5 ?_
    refine zt rfl (zc rfl (erepJ_c o.v _ (vcells_eq o.v) o.pa hob.pan _ v _ _ (vcells_eq v) hjb hst)) ?_
    rw [vcells_eq (jed 3 o.v o.pa v).1]
    refine zv4 ?_
    refine zrt ?_
    rw [pdo_3 h3, vcells_eq]
    exact RQ_ret (rkvs_cons (rkv_ck rfl rfl rfl) (rkvs_cons (rkv_t rfl) rfl)) hcl (by simp [rks, AV.lt, AV.ltL, cerJ_lt]) ⟨rfl, rfl⟩
   ·(try rw [h3]); replace h3 := zcl h3
    refine zw2 ?_
    refine AWp_cond rfl (fun h4 => ?_) (fun h4 => ?_)
    ·(try rw [h4]); replace h4 := zcl h4
     refine zu2 ?_
     refine zt rfl (zc rfl (mv_c o _ (ocells_eq o) hob v _ _ (vcells_eq v) hjb hst hsz)) ?_
     rw [vcells_eq (pmv v o).1]
     refine zv4 ?_
     refine zrt ?_
     rw [pdo_4 h4, vcells_eq]
     exact RQ_ret (rkvs_cons (rkv_ck rfl rfl rfl) (rkvs_cons (rkv_t rfl) rfl)) hcl (by simp [rks, AV.lt, AV.ltL, cerJ_lt]) ⟨rfl, rfl⟩
    ·(try rw [h4]); replace h4 := zcl h4
     refine zw2 ?_
     refine AWp_cond rfl (fun h5 => ?_) (fun h5 => ?_)
     ·(try rw [h5]); replace h5 := zcl h5
      refine zu3 ?_
      refine zt rfl (zc rfl (pget_c o.fr _ v _ _ hb2 hob.frn (vcells_eq v) hjb)) ?_
      rw [vcells_eq (jget o.fr v).1]
      refine zv6 ?_
      refine AWp_seq ?_
      refine AWp_seq ?_
      refine AWp_heap (σ' := σ ++ [.box [.int .i64 v.kind, .bool v.b, .bool v.n.neg, .str v.n.digits, .int .i64 v.n.exp, .str v.s, .sl false 8 (lcells v.l), .sl false 9 (mcells v.m)], .box [.int .i64 o.op, .sl false 1 (srow o.pa), .sl false 1 (srow o.fr), .int .i64 o.v.kind, .bool o.v.b, .bool o.v.n.neg, .str o.v.n.digits, .int .i64 o.v.n.exp, .str o.v.s, .sl false 8 (lcells o.v.l), .sl false 9 (mcells o.v.m)], .box [.int .i64 0, .bool false, .bool false, .str ⟨#[]⟩, .int .i64 0, .str ⟨#[]⟩, .nils, .nils], .box [.int .i64 (jget o.fr v).1.kind, .bool (jget o.fr v).1.b, .bool (jget o.fr v).1.n.neg, .str (jget o.fr v).1.n.digits, .int .i64 (jget o.fr v).1.n.exp, .str (jget o.fr v).1.s, .sl false 8 (lcells (jget o.fr v).1.l), .sl false 9 (mcells (jget o.fr v).1.m)]]) rfl ?_
      refine AWp_regL ?_
      refine zg1 ?_
      refine zt rfl (op_neGerr rfl Tryz.underlying35 rfl) ?_
      refine zon ?_
      refine AWp_cond rfl (fun h6 => ?_) (fun h6 => ?_)
      ·(try rw [h6]); replace h6 := zcl h6
       have hg : (jget o.fr v).2 = false := by simpa using h6
       refine zw4 ?_
       refine AWp_boxLeO 2 (bs' := [.int .i64 vz.kind, .bool vz.b, .bool vz.n.neg, .str vz.n.digits, .int .i64 vz.n.exp, .str vz.s, .sl false 8 (lcells vz.l), .sl false 9 (mcells vz.m)]) rfl ⟨AVle.refl _, AVle.refl _, AVle.refl _, AVle.refl _, AVle.refl _, AVle.refl _, nilL, nilM, trivial⟩ ?_
       refine zrt ?_
       rw [pdo_5n h5 hg, vcells_eq, hg]
       exact RQ_ret (rkvs_cons (rkv_ck rfl rfl rfl) (rkvs_cons (rkv_t rfl) rfl)) hcl (by simp [rks, AV.lt, AV.ltL, gerr_lt]) ⟨rfl, rfl⟩
      ·(try rw [h6]); replace h6 := zcl h6
       have hg : ¬ (jget o.fr v).2 = false := by simpa using h6
       refine AWp_skip ?_
       refine zu4 ?_
       refine zt rfl (zc rfl (eaddJ_c (jget o.fr v).1 _ (vcells_eq _) o.pa hob.pan hb1 _ v _ _ (vcells_eq v) hjb hst)) ?_
       rw [vcells_eq (jed 1 (jget o.fr v).1 o.pa v).1]
       refine zv4 ?_
       refine zrt ?_
       rw [pdo_5 h5 hg, vcells_eq]
       exact RQ_ret (rkvs_cons (rkv_ck rfl rfl rfl) (rkvs_cons (rkv_t rfl) rfl)) hcl (by simp [rks, AV.lt, AV.ltL, cerJ_lt]) ⟨rfl, rfl⟩
     ·(try rw [h5]); replace h5 := zcl h5
      refine AWp_skip ?_
      refine zu2 ?_
      refine zt rfl (zc rfl (tst_c o _ (ocells_eq o) hob v _ _ (vcells_eq v) hjb hst hsz)) ?_
      rw [vcells_eq (pts v o).1]
      refine zv4 ?_
      refine zrt ?_
      rw [pdo_6 (by omega), vcells_eq]
      exact RQ_ret (rkvs_cons (rkv_ck rfl rfl rfl) (rkvs_cons (rkv_t rfl) rfl)) hcl (by simp [rks, AV.lt, AV.ltL, cerJ_lt]) ⟨rfl, rfl⟩
end Lg
set_option maxRecDepth 100000
namespace Lg
open Go Go.Proofs Go.RowKit Go.Extern.Stop Go.Stop Go.Extern
theorem a9_valueOf27 (t : Addr) (w : World) : (ReflectliteValue.unpack (.iface 86 (.pointer (some t)))).run Tryz.prog w
    = .ok (.agg #[.pointer (some ⟨9, 86, none⟩), .pointer (some ⟨w.heap.size, 0, none⟩), .int .u64 150]) (w.alloc (.cells #[.pointer (some t)] 86)) := by kernel_rfl
theorem a9_type27 (a : Addr) (w : World) : (ReflectliteValue.methodAny (ReflectliteValue.valueError "reflectlite.Value.Type" 0) (fun t _ _ _ => ReflectliteType.toType t) #[.agg #[.pointer (some ⟨9, 86, none⟩), .pointer (some a), .int .u64 150]]).run Tryz.prog w
    = .ok (.iface 152 (.agg #[.pointer (some ⟨9, 86, none⟩)])) w := by kernel_rfl
theorem a9_methodKind (h : Value) (w : World) : (Go.method 386 152 (.agg #[h]) "Kind").run Tryz.prog w = .ok (240, h) w := by kernel_rfl
theorem a9_kind27 (w : World) : ((ReflectliteType.abiMethod fun t => (fun a : Nat => Value.int IntKind.u8 (a : Int)) <$> Rtype.kind t) #[.pointer (some ⟨9, 86, none⟩)]).run Tryz.prog w = .ok (.int .u8 22) w := by kernel_rfl
theorem a9_kind25 (w : World) : ((ReflectliteType.abiMethod fun t => (fun a : Nat => Value.int IntKind.u8 (a : Int)) <$> Rtype.kind t) #[.pointer (some ⟨9, 69, none⟩)]).run Tryz.prog w = .ok (.int .u8 2) w := by kernel_rfl

theorem rlm (z : Sem Value) (f : TypeId → Addr → Nat → Nat → Sem Value) (v : Value) :
    ReflectliteValue.method z f #[v] = (do match ← ReflectliteValue.parts v with | none => z | some (t, a, fl) => f t a fl (fl % 32)) := rfl
theorem a9_parts27 (a : Addr) (w : World) : (ReflectliteValue.parts (.agg #[.pointer (some ⟨9, 86, none⟩), .pointer (some a), .int .u64 150])).run Tryz.prog w = .ok (some (86, a, 150)) w := by kernel_rfl
theorem a9_isNil27 (a p : Addr) (W : World) (ha : W.cell? a = some (.pointer (some p))) :
    (ReflectliteValue.method (ReflectliteValue.valueError "reflectlite.Value.IsNil" 0) ReflectliteValue.isNil #[.agg #[.pointer (some ⟨9, 86, none⟩), .pointer (some a), .int .u64 150]]).run Tryz.prog W = .ok (.bool false) W := by
  rw [rlm]
  simp only [Sem.run_bind, a9_parts27, Result.andThen]
  simp [ReflectliteValue.isNil, loadVar, isAgg, underlying, Tryz.underlying86, ha, Result.andThen]

theorem a9_methodElem (h : Value) (w : World) : (Go.method 386 152 (.agg #[h]) "Elem").run Tryz.prog w = .ok (253, .agg #[h]) w := by kernel_rfl
theorem a9_methodImplements (h : Value) (w : World) : (Go.method 386 152 (.agg #[h]) "Implements").run Tryz.prog w = .ok (254, .agg #[h]) w := by kernel_rfl
theorem a9_methodAssignableTo (h : Value) (w : World) : (Go.method 386 152 (.agg #[h]) "AssignableTo").run Tryz.prog w = .ok (251, .agg #[h]) w := by kernel_rfl
theorem a9_elem27 (w : World) : (ReflectliteType.method ReflectliteType.elem #[.agg #[.pointer (some ⟨9, 86, none⟩)]]).run Tryz.prog w = .ok (.iface 152 (.agg #[.pointer (some ⟨9, 69, none⟩)])) w := by kernel_rfl
theorem a9_implements25 (w : World) : (ReflectliteType.relation "Implements" ReflectliteType.implements_ #[.agg #[.pointer (some ⟨9, 69, none⟩)], .iface 152 (.agg #[.pointer (some ⟨9, 35, none⟩)])]).run Tryz.prog w = .ok (.bool true) w := by kernel_rfl
theorem a9_typeOf25 (v : Value) (w : World) : (ReflectliteType.typeOf #[.iface 69 v]).run Tryz.prog w = .ok (.iface 152 (.agg #[.pointer (some ⟨9, 69, none⟩)])) w := by kernel_rfl
theorem a9_assignable25 (w : World) : (ReflectliteType.relation "AssignableTo" ReflectliteType.assignableTo #[.agg #[.pointer (some ⟨9, 69, none⟩)], .iface 152 (.agg #[.pointer (some ⟨9, 69, none⟩)])]).run Tryz.prog w = .ok (.bool true) w := by kernel_rfl
theorem a9_valueOf25 (e : Int) (w : World) : (ReflectliteValue.unpack (.iface 69 (.int .i64 e))).run Tryz.prog w
    = .ok (.agg #[.pointer (some ⟨9, 69, none⟩), .pointer (some ⟨w.heap.size, 0, none⟩), .int .u64 130]) (w.alloc (.cells #[.int .i64 e] 69)) := by kernel_rfl

theorem a9_elemOf27 (w : World) : (Rtype.elem? 86).run Tryz.prog w = .ok (some 69) w := by kernel_rfl
theorem a9_mk25 (p : Addr) (w : World) : (ReflectliteValue.mk 69 p ReflectliteValue.flagAddr).run Tryz.prog w = .ok (.agg #[.pointer (some ⟨9, 69, none⟩), .pointer (some p), .int .u64 386]) w := by kernel_rfl
theorem a9_elemV27 (a p : Addr) (W : World) (ha : W.cell? a = some (.pointer (some p))) :
    (ReflectliteValue.method (ReflectliteValue.valueError "reflectlite.Value.Elem" 0) ReflectliteValue.elem #[.agg #[.pointer (some ⟨9, 86, none⟩), .pointer (some a), .int .u64 150]]).run Tryz.prog W
      = .ok (.agg #[.pointer (some ⟨9, 69, none⟩), .pointer (some p), .int .u64 386]) W := by
  rw [rlm]
  simp only [Sem.run_bind, a9_parts27, Result.andThen]
  simp [ReflectliteValue.elem, loadVar, isAgg, underlying, Tryz.underlying86, ha, Result.andThen, a9_elemOf27, a9_mk25]
theorem rls (v x : Value) : ReflectliteValue.set #[v, x] = (do
    let (some (dst, a, fl), some (src, b, _)) := (← ReflectliteValue.parts v, ← ReflectliteValue.parts x)
      | unsupported (.noEntry "extern/(internal/reflectlite.Value).Set.zeroValue")
    if fl / ReflectliteValue.flagAddr % 2 == 0 then unsupported (.noEntry "extern/(internal/reflectlite.Value).Set.unaddressable")
    let val ← loadVar src b
    if ← Rtype.directlyAssignable dst src then storeVar dst a val
    else if ← Rtype.implements dst src then
      if (← Rtype.kind src) == 20 then
        match val with
        | .nilIface => unsupported (.noEntry "extern/reflectlite: a nil value of one interface type handed on as a value of another")
        | _ => storeVar dst a val
      else storeVar dst a (.iface src val)
    else panicString ("reflectlite.Set: value of type " ++ (← Rtype.spelt src) ++ " is not assignable to type " ++ (← Rtype.spelt dst))
    pure (.tuple #[])) := rfl
theorem a9_parts25a (a : Addr) (w : World) : (ReflectliteValue.parts (.agg #[.pointer (some ⟨9, 69, none⟩), .pointer (some a), .int .u64 386])).run Tryz.prog w = .ok (some (69, a, 386)) w := by kernel_rfl
theorem a9_parts25 (a : Addr) (w : World) : (ReflectliteValue.parts (.agg #[.pointer (some ⟨9, 69, none⟩), .pointer (some a), .int .u64 130])).run Tryz.prog w = .ok (some (69, a, 130)) w := by kernel_rfl
theorem a9_direct25 (w : World) : (Rtype.directlyAssignable 69 69).run Tryz.prog w = .ok true w := by kernel_rfl
theorem a9_set25 (ta b : Addr) (e : Int) (old : Value) (W : World) (hb : W.cell? b = some (.int .i64 e)) (ht : W.cell? ta = some old) (hf : W.frozen? ta = false) :
    (ReflectliteValue.set #[.agg #[.pointer (some ⟨9, 69, none⟩), .pointer (some ta), .int .u64 386], .agg #[.pointer (some ⟨9, 69, none⟩), .pointer (some b), .int .u64 130]]).run Tryz.prog W
      = .ok (.tuple #[]) (W.setCell ta (.int .i64 e)) := by
  rw [rls]
  simp only [Sem.run_bind, a9_parts25a, a9_parts25, Result.andThen]
  simp [ReflectliteValue.flagAddr, loadVar, isAgg, underlying, Tryz.underlying69, hb, Result.andThen, a9_direct25, storeVar, Value.cells, storeCells, Addr.add]
  rw [run_store Tryz.prog W ta _ _ (by rfl)]
  simp [ht, hf]

set_option maxHeartbeats 4000000 in
theorem as_hit (e : Int) (t : Addr) (old : Value) (w : World) (hg : w.cell? ⟨0, 0, none⟩ = some (.iface 152 (.agg #[.pointer (some ⟨9, 35, none⟩)]))) (ht0 : w.cell? t = some old) (hf0 : w.frozen? t = false) :
    Calls Tryz.prog 56 #[.iface 69 (.int .i64 e), .iface 86 (.pointer (some t))] w fun ev w' => ev = .returned (.bool true) ∧ w' = ((((w.alloc (.cells #[.pointer (some t)] 86)).alloc (.cells #[.pointer (some ⟨9, 86, none⟩), .pointer (some ⟨w.heap.size, 0, none⟩), .int .u64 150] 123)).alloc (.cells #[.pointer (some ⟨9, 86, none⟩), .pointer (some ⟨w.heap.size, 0, none⟩), .int .u64 150] 123)).alloc (.cells #[.int .i64 e] 69)).setCell t (.int .i64 e) := by
  have h6 := @run_callFunc_extern Tryz.prog 80 _ (fun args => ReflectliteValue.unpack (args.getD 0 (.tuple #[]))) Tryz.func80 (by kernel_rfl) (by kernel_rfl) (by kernel_rfl) (by kernel_rfl)
  have h7 := @run_callFunc_extern Tryz.prog 81 _ (ReflectliteValue.methodAny (ReflectliteValue.valueError "reflectlite.Value.Type" 0) (fun t _ _ _ => ReflectliteType.toType t)) Tryz.func81 (by kernel_rfl) (by kernel_rfl) (by kernel_rfl) (by kernel_rfl)
  have h8 := @run_callFunc_extern Tryz.prog 82 _ (ReflectliteValue.method (ReflectliteValue.valueError "reflectlite.Value.IsNil" 0) ReflectliteValue.isNil) Tryz.func82 (by kernel_rfl) (by kernel_rfl) (by kernel_rfl) (by kernel_rfl)
  have h27 := @run_callFunc_extern Tryz.prog 240 _ (ReflectliteType.abiMethod fun t => do pure (.int .u8 (← Rtype.kind t))) Tryz.func240 (by kernel_rfl) (by kernel_rfl) (by kernel_rfl) (by kernel_rfl)
  have h37 := @run_callFunc_extern Tryz.prog 253 _ (ReflectliteType.method ReflectliteType.elem) Tryz.func253 (by kernel_rfl) (by kernel_rfl) (by kernel_rfl) (by kernel_rfl)
  have h38 := @run_callFunc_extern Tryz.prog 254 _ (ReflectliteType.relation "Implements" ReflectliteType.implements_) Tryz.func254 (by kernel_rfl) (by kernel_rfl) (by kernel_rfl) (by kernel_rfl)
  have h10 := @run_callFunc_extern Tryz.prog 115 _ ReflectliteType.typeOf Tryz.func115 (by kernel_rfl) (by kernel_rfl) (by kernel_rfl) (by kernel_rfl)
  have h35 := @run_callFunc_extern Tryz.prog 251 _ (ReflectliteType.relation "AssignableTo" ReflectliteType.assignableTo) Tryz.func251 (by kernel_rfl) (by kernel_rfl) (by kernel_rfl) (by kernel_rfl)
  have h11 := @run_callFunc_extern Tryz.prog 116 _ (ReflectliteValue.method (ReflectliteValue.valueError "reflectlite.Value.Elem" 0) ReflectliteValue.elem) Tryz.func116 (by kernel_rfl) (by kernel_rfl) (by kernel_rfl) (by kernel_rfl)
  have h12 := @run_callFunc_extern Tryz.prog 117 _ ReflectliteValue.set Tryz.func117 (by kernel_rfl) (by kernel_rfl) (by kernel_rfl) (by kernel_rfl)
  have tO := a9_typeOf25
  have mA := a9_methodAssignableTo
  have a25 := a9_assignable25
  have v25 := a9_valueOf25
  have f6 := a9_valueOf27
  have f7 := a9_type27
  have mK := a9_methodKind
  have mE := a9_methodElem
  have mI := a9_methodImplements
  have k27 := a9_kind27
  have k25 := a9_kind25
  have e27 := a9_elem27
  have i25 := a9_implements25
  have n8 := a9_isNil27 ⟨w.heap.size, 0, none⟩ t ((w.alloc (.cells #[.pointer (some t)] 86)).alloc (.cells #[.pointer (some ⟨9, 86, none⟩), .pointer (some ⟨w.heap.size, 0, none⟩), .int .u64 150] 123)) (by simp)
  have hlt : 0 < w.heap.size := by
    rcases Nat.eq_zero_or_pos w.heap.size with h0 | h
    · simp [World.cell?, h0] at hg
    · exact h
  have hg2 : ((w.alloc (.cells #[.pointer (some t)] 86)).alloc (.cells #[.pointer (some ⟨9, 86, none⟩), .pointer (some ⟨w.heap.size, 0, none⟩), .int .u64 150] 123)).cell? ⟨0, 0, none⟩ = some (.iface 152 (.agg #[.pointer (some ⟨9, 35, none⟩)])) := by
    rw [World.cell?_alloc_lt _ _ ⟨0, 0, none⟩ (by simp), World.cell?_alloc_lt _ _ ⟨0, 0, none⟩ hlt]; exact hg
  have htl : t.block < w.heap.size := by
    rcases Nat.lt_or_ge t.block w.heap.size with h | h
    · exact h
    · simp [World.cell?, Array.getElem?_eq_none h] at ht0
  have el := a9_elemV27 ⟨w.heap.size, 0, none⟩ t (((w.alloc (.cells #[.pointer (some t)] 86)).alloc (.cells #[.pointer (some ⟨9, 86, none⟩), .pointer (some ⟨w.heap.size, 0, none⟩), .int .u64 150] 123)).alloc (.cells #[.pointer (some ⟨9, 86, none⟩), .pointer (some ⟨w.heap.size, 0, none⟩), .int .u64 150] 123)) (by rw [World.cell?_alloc_lt _ _ ⟨w.heap.size, 0, none⟩ (by simp; omega)]; simp)
  have st := a9_set25 t ⟨w.heap.size + 1 + 1 + 1, 0, none⟩ e old ((((w.alloc (.cells #[.pointer (some t)] 86)).alloc (.cells #[.pointer (some ⟨9, 86, none⟩), .pointer (some ⟨w.heap.size, 0, none⟩), .int .u64 150] 123)).alloc (.cells #[.pointer (some ⟨9, 86, none⟩), .pointer (some ⟨w.heap.size, 0, none⟩), .int .u64 150] 123)).alloc (.cells #[.int .i64 e] 69))
    (by rw [World.cell?_alloc_at _ _ _ _ (by simp)]; rfl)
    (by rw [World.cell?_alloc_lt _ _ t (by simp; omega), World.cell?_alloc_lt _ _ t (by simp; omega), World.cell?_alloc_lt _ _ t (by simp; omega), World.cell?_alloc_lt _ _ t htl]; exact ht0)
    (by rw [World.frozen?_alloc_old _ _ t (by simp; omega), World.frozen?_alloc_old _ _ t (by simp; omega), World.frozen?_alloc_old _ _ t (by simp; omega), World.frozen?_alloc_old _ _ t (Nat.ne_of_lt htl)]; exact hf0)
  go_enter Tryz.func56, Tryz.ntmps56
  go_wp2
  refine wp_loop_rounds 1 ?_
  rw [rounds_succ]
  go_wp2
  go_ret
  exact ⟨rfl, rfl⟩
end Lg
namespace Lg
open Go Go.Proofs Go.RowKit
class ET [GLay] : Prop where
  cell : ∀ w : World, Laid w → w.cell? ⟨0, 0, none⟩ = some (.iface 152 (.agg #[.pointer (some ⟨9, 35, none⟩)]))
theorem ET.of [g : GLay] {W : World} (hc : W.cell? ⟨0, 0, none⟩ = some (.iface 152 (.agg #[.pointer (some ⟨9, 35, none⟩)]))) (hg : ∀ b, g.f b = W.heap[b]?) : ET := ⟨fun w hl => by
  cases h : W.heap[0]? with
  | none => simp [World.cell?, h] at hc
  | some ob =>
    have h1 := hl 0 ob ((hg 0).trans h)
    unfold World.cell? at hc ⊢
    simp only at hc ⊢
    rw [h1]; rw [h] at hc; exact hc⟩
theorem setCell_row {w : World} {b : Nat} {old v : Value} {T : TypeId} (h : w.heap[b]? = some (.cells #[old] T (0, 0))) : w.setCell ⟨b, 0, none⟩ v = w.setRow b #[v] := by
  unfold World.setCell World.setRow
  congr 1
  apply Array.ext_getElem?
  intro i
  rw [Array.getElem?_modify, Array.getElem?_modify]
  by_cases e : b = i
  · subst e; rw [if_pos rfl, if_pos rfl, h]; rfl
  · rw [if_neg e, if_neg e]
variable [GLay] [ET]
theorem as_c (k old : Int) (p : Nat) (σ : List AO) (hp : σ[p]? = some (.box [.int .i64 old])) : ACalls Tryz.prog 56 [.iface 69 (.int .i64 k), .iface 86 (.ptr p 0)] σ (Ret (.bool true) (σ.set p (.box [.int .i64 k]))) := fun s cargs hs g hv => by
  subst hs
  obtain ⟨c1, r1, rfl, h1, hv2⟩ := hv.inv_cons
  obtain ⟨c2, r2, rfl, h2, hv3⟩ := hv2.inv_cons
  obtain rfl := hv3.inv_nil
  obtain ⟨x1, rfl, hx1⟩ := h1.inv_iface
  obtain ⟨x2, rfl, hx2⟩ := h2.inv_iface
  obtain rfl := hx1.inv_int
  obtain rfl := hx2.inv_ptr
  have hlive : s.live p := by unfold CS.live; rw [hp]; trivial
  obtain ⟨hnok, vs, T, hb, hpw⟩ := g.obj p _ hp
  obtain ⟨v0, vr, rfl, hv0, hvr⟩ := PW.inv_cons hpw
  obtain rfl := PW.inv_nil hvr
  obtain rfl := hv0.inv_int
  have hlt := (g.live_lt hlive).1
  have hc := ET.cell s.w g.laid
  have hcell : s.w.cell? ⟨(s.μ p).b, 0, none⟩ = some (.int .i64 old) := by unfold World.cell?; simp only; rw [hb]; rfl
  have hfz : s.w.frozen? ⟨(s.μ p).b, 0, none⟩ = false := by unfold World.frozen?; simp only; rw [hb]; rfl
  refine (as_hit k ⟨(s.μ p).b, 0, none⟩ (.int .i64 old) s.w hc hcell hfz).mono fun ed w' hh => ?_
  obtain ⟨rfl, rfl⟩ := hh
  obtain ⟨w4, hw4⟩ : ∃ w4 : World, w4 = (((s.w.alloc (.cells #[.pointer (some ⟨(s.μ p).b, 0, none⟩)] 86)).alloc (.cells #[.pointer (some ⟨9, 86, none⟩), .pointer (some ⟨s.w.heap.size, 0, none⟩), .int .u64 150] 123)).alloc (.cells #[.pointer (some ⟨9, 86, none⟩), .pointer (some ⟨s.w.heap.size, 0, none⟩), .int .u64 150] 123)).alloc (.cells #[.int .i64 k] 69) := ⟨_, rfl⟩
  rw [← hw4]
  have hbel : Below s.w.heap.size s.w w4 := by
    rw [hw4]
    exact ((((Below.refl s.w.heap.size s.w).alloc (Nat.le_refl _) _).alloc (by simp) _).alloc (by simp; omega) _).alloc (by simp; omega) _
  obtain ⟨g1, x1⟩ := g.grow hbel
  have hb4 : w4.heap[(s.μ p).b]? = some (.cells #[.int .i64 old] T (0, 0)) := (hbel.block _ hlt).trans hb
  obtain ⟨s', e1, e2, g', x', _⟩ := g1.setObj (s := { s with w := w4 }) (p := p) (o := .box [.int .i64 old]) (o' := .box [.int .i64 k]) hp (by unfold CS.live; rw [show ({ s with w := w4 } : CS).σ[p]? = _ from hp]; trivial) (.box _ _ rfl) trivial (vs := [.int .i64 k]) (PW.cons (.int _ _) PW.nil)
  refine ⟨s', ?_, g', x1.trans x', _, .bool _, rfl, e1⟩
  rw [e2, setCell_row hb4]
end Lg
namespace Lg
open Go
section
variable [GLay]
theorem jfD_st {v : JV} {key : ByteArray} (h : jst v) : jst (jfD v key) := by
  unfold jfD jfind
  split
  · cases hf : v.m.find? fun q => decide (q.1 = key) with
    | none => exact st_vz
    | some q => exact ((st_eq v).1 h).2.2.2.2 q (List.mem_of_find?_eq_some hf)
  · exact st_vz
theorem pN_nm (s : BL) : ∀ x ∈ pN s, x.length ≤ s.length := by
  cases h : pE s with
  | none => exact (pN_len h).2
  | some i =>
    by_cases h0 : s = []
    · subst h0; intro x hx; simp [pN] at hx
    · rw [pN_bad h0 h]; intro x hx; cases hx
theorem jptN_nm {v : JV} {key : ByteArray} (h : jb v) : ∀ n ∈ jptN v key, n.length ≤ 1000000 := by
  unfold jptN
  split
  · have h5 := ((jb_eq _).1 (jfD_jb (key := key) h)).2.1
    have h6 : (jfD v key).s.data.toList.length = (jfD v key).s.size := Array.length_toList ..
    intro n hn
    have := pN_nm _ n hn
    omega
  · intro n hn; cases hn
theorem jop_OPB {v : JV} {o : JOp} (hb : jb v) (hs : jst v) (hz : jsize v ≤ 3000) (ho : jop v = some o) : OPB o := by
  have hr := jopn_range v
  have hz1 : jsize vz ≤ 3000 := by rw [vz_size]; decide
  by_cases h0 : jopn v = 0
  · rw [jop_n1 h0] at ho; cases ho
  · by_cases hp : jptB v bPath = true
    · have hpl := jptN_len hb hp
      have hpn := jptN_nm (key := bPath) hb
      have he : ∀ n ∈ ([] : List BL), n.length ≤ 1000000 := fun n hn => by cases hn
      by_cases h4 : jopn v = 4 ∨ jopn v = 5
      · rw [jop_fr hp h4] at ho
        split at ho
        · rename_i hf
          cases ho
          exact ⟨by show 1 ≤ jopn v; omega, hr.2, vz_jb0, st_vz, hz1, hpl, jptN_len hb hf, hpn, jptN_nm hb⟩
        · cases ho
      · by_cases h2 : jopn v = 2
        · rw [jop_rm hp h2] at ho; cases ho
          exact ⟨by show (1 : Int) ≤ 2; decide, by show (2 : Int) ≤ 6; decide, vz_jb0, st_vz, hz1, hpl, Nat.zero_le _, hpn, he⟩
        · rw [jop_vl hp h0 h4 h2] at ho
          split at ho
          · cases ho
            exact ⟨by show 1 ≤ jopn v; omega, hr.2, jfD_jb hb, jfD_st hs, jfD_size hz (by decide), hpl, Nat.zero_le _, hpn, he⟩
          · cases ho
    · rw [jop_n2 (by simpa using hp)] at ho; cases ho
theorem jops_OPB {l : List JV} {os : List JOp} (hl : ∀ x ∈ l, jb x ∧ jst x ∧ jsize x ≤ 3000) (h : jops l = some os) : ∀ o ∈ os, OPB o := by
  induction l generalizing os with
  | nil => simp [jops] at h; subst h; intro o ho; cases ho
  | cons a r ih =>
    rw [jops] at h
    cases ha : jop a with
    | none => rw [ha] at h; cases h
    | some o =>
      rw [ha] at h
      simp only [Option.map_eq_some_iff] at h
      obtain ⟨os', h1, rfl⟩ := h
      intro p hp
      have h2 := hl a (List.mem_cons_self ..)
      rcases List.mem_cons.1 hp with rfl | hp
      · exact jop_OPB h2.1 h2.2.1 h2.2.2 ha
      · exact ih (fun x hx => hl x (List.mem_cons_of_mem _ hx)) h1 p hp
noncomputable def opQ (s : ByteArray) : List JOp × Int := if (rValue s).2 = 0 then ([], 0) else if ¬ jrdC (rValue s).1 = 0 then ([], 0) else (jrd (rValue s).1, 1)
theorem opQ_0 {s : ByteArray} (h : (rValue s).2 = 0) : opQ s = ([], 0) := by unfold opQ; rw [if_pos h]
theorem opQ_b {s : ByteArray} (h : ¬ (rValue s).2 = 0) (hb : ¬ jrdC (rValue s).1 = 0) : opQ s = ([], 0) := by unfold opQ; rw [if_neg h, if_pos hb]
theorem opQ_y {s : ByteArray} (h : ¬ (rValue s).2 = 0) (hb : jrdC (rValue s).1 = 0) : opQ s = (jrd (rValue s).1, 1) := by unfold opQ; rw [if_neg h, if_neg (fun x => x hb)]
theorem jrd_OPB {v : JV} (hb : jb v) (hs : jst v) (hz : jsize v ≤ 3000) : (jrd v).length ≤ 100 ∧ ∀ o ∈ jrd v, OPB o := by
  have he : ∀ o ∈ ([] : List JOp), OPB o := fun o ho => by cases ho
  unfold jrd
  split
  · exact ⟨Nat.zero_le _, he⟩
  · split
    · exact ⟨Nat.zero_le _, he⟩
    · rename_i h1 h2
      cases hj : jops v.l with
      | none => exact ⟨Nat.zero_le _, he⟩
      | some os =>
        refine ⟨by have := jops_len hj; show os.length ≤ 100; omega, ?_⟩
        exact jops_OPB (fun x hx => by
          obtain ⟨i, hi⟩ := List.getElem?_of_mem hx
          have h3 := lsize_mem hi
          have h4 := jsize_eq v
          have h5 := msize_nn v.m
          exact ⟨lb_get ((jb_eq v).1 hb).2.2.2.2.1 hi, st_get hs hi, by omega⟩) hj
theorem opQ_ok (s : ByteArray) : (opQ s).1.length ≤ 100 ∧ ∀ o ∈ (opQ s).1, OPB o := by
  have he : ∀ o ∈ ([] : List JOp), OPB o := fun o ho => by cases ho
  by_cases h : (rValue s).2 = 0
  · rw [opQ_0 h]; exact ⟨Nat.zero_le _, he⟩
  · by_cases hb : jrdC (rValue s).1 = 0
    · rw [opQ_y h hb]
      rcases rValue_ok s with h1 | ⟨_, h2, h3, h4⟩
      · exact absurd h1.1 h
      · exact jrd_OPB h3 (may_st h2) (by omega)
    · rw [opQ_b h hb]; exact ⟨Nat.zero_le _, he⟩
def jE (r : JV × Int × Int) : Option (Int × Int) := if r.2.1 = 0 then none else some (r.2.2, r.2.1)
theorem jE_n {r : JV × Int × Int} (h : r.2.1 = 0) : jE r = none := by unfold jE; rw [if_pos h]
theorem jE_s {r : JV × Int × Int} (h : ¬ r.2.1 = 0) : jE r = some (r.2.2, r.2.1) := by unfold jE; rw [if_neg h]
theorem pdo_chk {v : JV} {o : JOp} (hob : OPB o) : jchk (pdo v o) = jchk (jdo v o) ∧ (jchk (jdo v o) = 0 → pdo v o = jdo v o) := by
  obtain ⟨h1, h2⟩ := pdo_jdo (v := v) hob.lo hob.hi
  by_cases h : (jdo v o).2 = 0
  · rw [h2 h]; exact ⟨rfl, fun _ => rfl⟩
  · have e1 : jchk (jdo v o) = (jdo v o).2 := by unfold jchk; rw [if_pos h]
    have e2 : jchk (pdo v o) = (jdo v o).2 := by unfold jchk; rw [if_pos (by rw [h1]; exact h), h1]
    rw [e1, e2]; exact ⟨rfl, fun h0 => absurd h0 h⟩
theorem jchk_a {r : JV × Int} (h : ¬ r.2 = 0) : jchk r = r.2 := by unfold jchk; rw [if_pos h]
theorem jchk_5 {r : JV × Int} (h : r.2 = 0) (h1 : 3000 < jsize r.1) : jchk r = 5 := by unfold jchk; rw [if_neg (fun x => x h), if_pos h1]
theorem jchk_3 {r : JV × Int} (h : r.2 = 0) (h1 : ¬ 3000 < jsize r.1) (h2 : 32 < jdepth r.1) : jchk r = 3 := by unfold jchk; rw [if_neg (fun x => x h), if_neg h1, if_pos h2]
theorem jchk_00 {r : JV × Int} (h : r.2 = 0) (h1 : ¬ 3000 < jsize r.1) (h2 : ¬ 32 < jdepth r.1) : jchk r = 0 := by unfold jchk; rw [if_neg (fun x => x h), if_neg h1, if_neg h2]
theorem jchk_rng {v : JV} {o : JOp} (hob : OPB o) (hb : jb v) (hs : jst v) (hz : jsize v ≤ 3000) : 0 ≤ jchk (pdo v o) ∧ jchk (pdo v o) ≤ 9 := by
  have h := (pdo_ok hob hb hs hz).2
  unfold jchk
  split
  · exact h
  · split
    · decide
    · split <;> decide
theorem jap_wf : ∀ (l : List JOp) (v : JV) (i : Nat), (∀ o ∈ l, OPB o) → jb v → jst v → jsize v ≤ 3000 → jb (jap l v i).1 ∧ jst (jap l v i).1 ∧ jsize (jap l v i).1 ≤ 3000
  | [], v, i, _, hb, hs, hz => ⟨hb, hs, hz⟩
  | o :: r, v, i, hl, hb, hs, hz => by
    have hob := hl o (List.mem_cons_self ..)
    by_cases h : jchk (jdo v o) = 0
    · rw [jap_ok h]
      have h1 := pdo_ok hob hb hs hz
      rw [(pdo_chk hob).2 h] at h1
      exact jap_wf r _ _ (fun p hp => hl p (List.mem_cons_of_mem _ hp)) h1.1.1 h1.1.2.1 (jchk_0 h).2.1
    · rw [jap_bad rfl h]; exact ⟨vz_jb0, st_vz, by show jsize vz ≤ 3000; rw [vz_size]; decide⟩
end
mutual
theorem jq_rfl : ∀ v : JV, jq v v = true
  | .mk k b n s l m => by simp only [jq, jqL_rfl l, jqM_rfl m, decide_true, Bool.and_self]
theorem jqL_rfl : ∀ l : List JV, jqL l l = true
  | [] => rfl
  | x :: r => by simp only [jqL, jq_rfl x, jqL_rfl r, Bool.and_self]
theorem jqM_rfl : ∀ l : List (ByteArray × JV), jqM l l = true
  | [] => rfl
  | (a, x) :: r => by simp only [jqM, jq_rfl x, jqM_rfl r, decide_true, Bool.and_self]
end
theorem jq_iff {v w : JV} : jq v w = true ↔ v = w := ⟨jq_eq, fun h => h ▸ jq_rfl v⟩
def jdoC (v : JV) (o : JOp) : JV × Int :=
  if o.op ≤ 3 then jed o.op o.v o.pa v else
  if o.op = 4 ∧ o.fr.length < o.pa.length ∧ o.pa.take o.fr.length = o.fr then (vz, 9) else
  if (jget (if o.op = 6 then o.pa else o.fr) v).2 = false then (vz, 6) else
  if o.op = 6 then (if jq (jget o.pa v).1 o.v = true then (v, 0) else (vz, 8)) else
  if o.op = 4 then (if o.pa = o.fr then (v, 0) else if (jed 2 vz o.fr v).2 ≠ 0 then (vz, (jed 2 vz o.fr v).2) else jed 1 (jget o.fr v).1 o.pa (jed 2 vz o.fr v).1) else
  jed 1 (jget o.fr v).1 o.pa v
theorem jdo_C (v : JV) (o : JOp) : jdo v o = jdoC v o := by
  unfold jdo jdoC
  by_cases h : (jget o.pa v).1 = o.v
  · simp only [if_pos h, if_pos (jq_iff.2 h)]
  · have hq : ¬ jq (jget o.pa v).1 o.v = true := fun e => h (jq_iff.1 e)
    simp only [if_neg h, if_neg hq]
def japC : List JOp → JV → Nat → JV × Int × Int
  | [], v, _ => (v, 0, 0)
  | o :: r, v, i => if jchk (jdoC v o) ≠ 0 then (vz, jchk (jdoC v o), (i : Int)) else japC r (jdoC v o).1 (i + 1)
theorem jap_C : ∀ (l : List JOp) (v : JV) (i : Nat), jap l v i = japC l v i
  | [], v, i => rfl
  | o :: r, v, i => by rw [jap, japC, jdo_C, jap_C r]
def ex9v : ByteArray := ⟨#[123, 34, 97, 34, 58, 91, 49, 93, 125]⟩
def ex9w : ByteArray := ⟨#[123, 34, 98, 34, 58, 91, 49, 93, 125]⟩
def ex9p : ByteArray := ⟨#[91, 123, 34, 111, 112, 34, 58, 34, 109, 111, 118, 101, 34, 44, 34, 102, 114, 111, 109, 34, 58, 34, 47, 97, 34, 44, 34, 112, 97, 116, 104, 34, 58, 34, 47, 98, 34, 125, 44, 123, 34, 111, 112, 34, 58, 34, 116, 101, 115, 116, 34, 44, 34, 112, 97, 116, 104, 34, 58, 34, 47, 98, 47, 48, 34, 44, 34, 118, 97, 108, 117, 101, 34, 58, 50, 125, 93]⟩
theorem ex9_0 : (rParse ex9v).2.1 = 0 ∧ (rParse ex9w).2.1 = 0 ∧ (rParse ex9p).2.1 = 0 := by rw [rParse_C (by decide), rParse_C (by decide), rParse_C (by decide)]; decide +kernel
theorem ex9_1 : jrdC (rParse ex9p).1 = 0 ∧ (jrd (rParse ex9p).1).length = 2 := by rw [rParse_C (by decide)]; decide +kernel
theorem ex9_2 : (jap (jrd (rParse ex9p).1) (rParse ex9v).1 0).2 = (8, 1) := by rw [jap_C, rParse_C (by decide), rParse_C (by decide)]; decide +kernel
theorem ex9_3 : (jap ((jrd (rParse ex9p).1).take 1) (rParse ex9v).1 0).2.1 = 0 := by rw [jap_C, rParse_C (by decide), rParse_C (by decide)]; decide +kernel
theorem ex9_4 : jq (jap ((jrd (rParse ex9p).1).take 1) (rParse ex9v).1 0).1 (rParse ex9w).1 = true := by rw [jap_C, rParse_C (by decide), rParse_C (by decide), rParse_C (by decide)]; decide +kernel
theorem ex9_q [GLay] : opQ ex9p = (jrd (rParse ex9p).1, 1) := by
  have h : rValue ex9p = ((rParse ex9p).1, 1) := by unfold rValue; rw [if_neg (by decide), if_pos ex9_0.2.2]
  have h1 := opQ_y (s := ex9p) (by rw [h]; decide) (by rw [h]; exact ex9_1.1)
  rw [h] at h1; exact h1
end Lg
namespace Lg
open Go Go.RowKit
variable [GLay]
section
variable {P : Program} {N : Nat} {ops : Array Oper} {tb : Array Nat} {QR : Env → List AO → Prop} {X : AV → List AO → Prop} {i : Nat} {e : Env} {o : Oper} {σ : List AO} {past : List (Nat × List AO)} {held : List (Nat × (List AO → Prop))}
theorem yPN {v : AV} (ho : nthO ops.toList i = some o) (hg : o.guard = none) (hd : o.dst = none) (h : AOp P σ e o v σ) (hp : PastOK P tb i e o v past) (k : RP P N ops tb QR X (i + 1) e σ past ((i, fun σ' => AOp P σ' e o v σ') :: held)) : RP P N ops tb QR X i e σ past held :=
  .pure o v (nthA ho) (GuardA_none hg rfl) (fun t ht => by rw [hd] at ht; cases ht) h hp (by rw [hd]; exact k)
end
end Lg
namespace Lg
open Go Go.RowKit
variable [GLay]
theorem op_storeId {P : Program} {e : Env} {o : Oper} {σ l : List AO} {T : TypeId} {x y : Operand} {n k off : Nat} {cs : List AV} (ho : o.op = .store T x y) (hz : ∀ w, (Go.sizeOf T).run P w = Result.ok n w) (hn : (opv e y).cells.length = n)
    (h1 : ones (opv e y).cells = true) (hx : opv e x = .ptr (σ.length + k) off) (hl : l[k]? = some (.box cs)) (hr : spl off cs (opv e y).cells = some cs) (hn0 : n ≠ 0) : AOp P (σ ++ l) e o .any (σ ++ l) := by
  have h := op_storeO (P := P) (σ := σ) ho hz hn h1 hx hl hr hn0
  obtain ⟨hk, e1⟩ := List.getElem?_eq_some_iff.1 hl
  rw [← e1, List.set_getElem_self] at h
  exact h
end Lg
set_option maxRecDepth 20000
set_option maxHeartbeats 4000000
namespace Lg
open Go Go.Proofs Go.RowKit
variable [GLay]  [ET]
theorem as_cO (k old : Int) (j : Nat) (σ l : List AO) (hl : l[j]? = some (.box [.int .i64 old])) : ACalls Tryz.prog 56 [.iface 69 (.int .i64 k), .iface 86 (.ptr (σ.length + j) 0)] (σ ++ l) (Ret (.bool true) (σ ++ l.set j (.box [.int .i64 k]))) := by
  have h := as_c k old (σ.length + j) (σ ++ l) (by rw [get_own]; exact hl)
  rw [set_own] at h; exact h
theorem cerJ_n {k : Int} (h : ¬ k = 0) : cerJ k = .iface 69 (.int .i64 k) := by unfold cerJ; rw [if_neg h]
theorem pap_c (l : List JOp) (f : Bool) (hl : l.length ≤ 1000000) (hob : ∀ o ∈ l, OPB o) (v : JV) (cs : List AV) (σ : List AO) (hc : vcells v = cs) (hjb : jb v) (hst : jst v) (hsz : jsize v ≤ 3000) : ACalls Tryz.prog 24 [.agg cs, .sl f 11 (orows l)] σ (Ret (.tup [.agg (vcells (jap l v 0).1), errV (jE (jap l v 0))]) σ) := by
 refine ACalls_bodyC Tryz.func24 rfl Tryz.ntmps24 (by rw [Tryz.results24]; exact (.ck Tryz.isAgg28 Tryz.sizeOf28 (.t .nil))) (Nat.le_of_ble_eq_true rfl) (fun hcl hal => ?_)
 subst hc
 rw [vcells_eq v]
 have hol := orows_len l
 refine zw3 ?_
 refine AWp_seq ?_
 refine zw3 ?_
 refine AWp_block ?_
 -- loop 0 LIVE 2:box 4:alloc 5:assign 11:move 12:call 13:move
 refine AWp_loop (ι := Nat × JV) (fun z => z.1 ≤ l.length ∧ jap (l.drop z.1) z.2 z.1 = jap l v 0 ∧ jb z.2 ∧ jst z.2 ∧ jsize z.2 ≤ 3000) (fun z => ⟨[], [(2, .ptr (σ.length + 0) 0), (4, .ptr (σ.length + 1) 0), (11, .sl f 11 (orows l)), (12, .int .i64 ((orows l).length : Int)), (13, .int .i64 (z.1 : Int))]⟩) (fun z => σ ++ [.box [.int .i64 z.2.kind, .bool z.2.b, .bool z.2.n.neg, .str z.2.n.digits, .int .i64 z.2.n.exp, .str z.2.s, .sl false 8 (lcells z.2.l), .sl false 9 (mcells z.2.m)], .box [.int .i64 0, .bool false, .bool false, .str ⟨#[]⟩, .int .i64 0, .str ⟨#[]⟩, .nils, .nils]]) (fun z => l.length - z.1) ((0, v)) (⟨Nat.zero_le _, by rw [List.drop_zero], hjb, hst, hsz⟩) ?_ rfl (fun z hz => ?_)
 ·exact ⟨rfl, rfl, rfl, rfl, rfl, rfl, trivial⟩
 obtain ⟨i, u⟩ := z
 obtain ⟨hz1, hz2, hz3, hz4, hz5⟩ := hz
 simp only at hz1 hz2 hz3 hz4 hz5 ⊢
 refine zw1 ?_
 refine AWp_seq ?_
 refine AWp_cond rfl (fun h1 => ?_) (fun h1 => ?_)
 ·(try rw [h1]); replace h1 := zcl h1
  obtain ⟨o, hx⟩ : ∃ o, l[i]? = some o := ⟨_, List.getElem?_eq_getElem (show i < l.length by omega)⟩
  have hxr := orows_get hx
  have hoo := hob o (List.mem_of_getElem? hx)
  rw [drop_cons hx] at hz2
  have hpo := pdo_ok hoo hz3 hz4 hz5
  have hpc := pdo_chk (v := u) hoo
  have hrg := jchk_rng hoo hz3 hz4 hz5
  refine AWp_skip ?_
  refine AWp_seq ?_
  refine AWp_block ?_
  refine zu1 ?_
  refine zt rfl (op_indexAddr rfl Tryz.underlying47 Tryz.sizeOf58 rfl rfl (by omega) (hxr)) ?_
  rw [ocells_eq o]
  refine zv4 ?_
  refine AWp_seq ?_
  refine AWp_heap (σ' := σ ++ [.box [.int .i64 u.kind, .bool u.b, .bool u.n.neg, .str u.n.digits, .int .i64 u.n.exp, .str u.s, .sl false 8 (lcells u.l), .sl false 9 (mcells u.m)], .box [.int .i64 0, .bool false, .bool false, .str ⟨#[]⟩, .int .i64 0, .str ⟨#[]⟩, .nils, .nils], .box [.int .i64 o.op, .sl false 1 (srow o.pa), .sl false 1 (srow o.fr), .int .i64 o.v.kind, .bool o.v.b, .bool o.v.n.neg, .str o.v.n.digits, .int .i64 o.v.n.exp, .str o.v.s, .sl false 8 (lcells o.v.l), .sl false 9 (mcells o.v.m)]]) rfl ?_
  refine AWp_regL ?_
  refine zg2 ?_
  refine zt rfl (zc rfl (pdo_c o _ (ocells_eq o) hoo u _ _ (vcells_eq u) hz3 hz4 hz5)) ?_
  rw [vcells_eq (pdo u o).1]
  refine zv6 ?_
  refine AWp_joinB (ι := Unit) (fun z => True) (fun z => ⟨[], [(2, .ptr (σ.length + 0) 0), (4, .ptr (σ.length + 1) 0), (6, .int .i64 (i : Int)), (8, .ptr (σ.length + 3) 0), (9, cerJ (jchk (pdo u o))), (11, .sl f 11 (orows l)), (12, .int .i64 ((orows l).length : Int)), (13, .int .i64 (i : Int))]⟩) (fun z => σ ++ [.box [.int .i64 u.kind, .bool u.b, .bool u.n.neg, .str u.n.digits, .int .i64 u.n.exp, .str u.s, .sl false 8 (lcells u.l), .sl false 9 (mcells u.m)], .box [.int .i64 0, .bool false, .bool false, .str ⟨#[]⟩, .int .i64 0, .str ⟨#[]⟩, .nils, .nils], .box [.int .i64 o.op, .sl false 1 (srow o.pa), .sl false 1 (srow o.fr), .int .i64 o.v.kind, .bool o.v.b, .bool o.v.n.neg, .str o.v.n.digits, .int .i64 o.v.n.exp, .str o.v.s, .sl false 8 (lcells o.v.l), .sl false 9 (mcells o.v.m)], .box [.int .i64 (pdo u o).1.kind, .bool (pdo u o).1.b, .bool (pdo u o).1.n.neg, .str (pdo u o).1.n.digits, .int .i64 (pdo u o).1.n.exp, .str (pdo u o).1.s, .sl false 8 (lcells (pdo u o).1.l), .sl false 9 (mcells (pdo u o).1.m)]]) ?_ (fun z hz => ?_)
  ·skip
   refine zu1 ?_
   refine zt rfl (op_neCer rfl Tryz.underlying35 rfl) ?_
   refine zv1 ?_
   refine AWp_cond rfl (fun h2 => ?_) (fun h2 => ?_)
   ·(try rw [h2]); replace h2 := zcl h2
    refine AWp_skip ?_
    show ∃ z : Unit, _ ∧ _ ∧ _
    rw [jchk_a h2]
    exact ⟨(), trivial, ⟨rfl, rfl, rfl, rfl, rfl, rfl, rfl, rfl, rfl, trivial⟩, rfl⟩
   ·(try rw [h2]); replace h2 := zcl h2
    refine zu1 ?_
    refine zt rfl (zc rfl (vcells_eq (pdo u o).1 ▸ size_any 9000 (pdo u o).1 _ (by omega) (by decide))) ?_
    refine zv2 ?_
    refine AWp_cond rfl (fun h3 => ?_) (fun h3 => ?_)
    ·(try rw [h3]); replace h3 := zcl h3
     refine AWp_regL ?_
     refine zv2 ?_
     show ∃ z : Unit, _ ∧ _ ∧ _
     rw [jchk_5 h2 (by omega)]
     exact ⟨(), trivial, ⟨rfl, rfl, rfl, rfl, rfl, rfl, rfl, rfl, rfl, trivial⟩, rfl⟩
    ·(try rw [h3]); replace h3 := zcl h3
     refine zu1 ?_
     refine zt rfl (zc rfl (vcells_eq (pdo u o).1 ▸ depth_any 9000 (pdo u o).1 _ (by omega) (by decide))) ?_
     refine zv2 ?_
     refine AWp_cond rfl (fun h4 => ?_) (fun h4 => ?_)
     ·(try rw [h4]); replace h4 := zcl h4
      refine AWp_regL ?_
      refine zv2 ?_
      show ∃ z : Unit, _ ∧ _ ∧ _
      rw [jchk_3 h2 (by omega) (by omega)]
      exact ⟨(), trivial, ⟨rfl, rfl, rfl, rfl, rfl, rfl, rfl, rfl, rfl, trivial⟩, rfl⟩
     ·(try rw [h4]); replace h4 := zcl h4
      refine AWp_skip ?_
      show ∃ z : Unit, _ ∧ _ ∧ _
      rw [jchk_00 h2 (by omega) (by omega)]
      refine ⟨(), trivial, ⟨rfl, rfl, rfl, rfl, rfl, ?_, rfl, rfl, rfl, trivial⟩, rfl⟩
      first | rfl | (rw [h2]; rfl)
  ·skip
   refine AWp_seq ?_
   refine AWp_seq ?_
   refine AWp_heap (σ' := σ ++ [.box [.int .i64 u.kind, .bool u.b, .bool u.n.neg, .str u.n.digits, .int .i64 u.n.exp, .str u.s, .sl false 8 (lcells u.l), .sl false 9 (mcells u.m)], .box [.int .i64 0, .bool false, .bool false, .str ⟨#[]⟩, .int .i64 0, .str ⟨#[]⟩, .nils, .nils], .box [.int .i64 o.op, .sl false 1 (srow o.pa), .sl false 1 (srow o.fr), .int .i64 o.v.kind, .bool o.v.b, .bool o.v.n.neg, .str o.v.n.digits, .int .i64 o.v.n.exp, .str o.v.s, .sl false 8 (lcells o.v.l), .sl false 9 (mcells o.v.m)], .box [.int .i64 (pdo u o).1.kind, .bool (pdo u o).1.b, .bool (pdo u o).1.n.neg, .str (pdo u o).1.n.digits, .int .i64 (pdo u o).1.n.exp, .str (pdo u o).1.s, .sl false 8 (lcells (pdo u o).1.l), .sl false 9 (mcells (pdo u o).1.m)]]) rfl ?_
   refine AWp_regL ?_
   refine zg1 ?_
   refine zt rfl (op_neCer rfl Tryz.underlying35 rfl) ?_
   refine zon ?_
   refine AWp_cond rfl (fun h5 => ?_) (fun h5 => ?_)
   ·(try rw [h5]); replace h5 := zcl h5
    rw [cerJ_n h5]
    refine zw1 ?_
    refine zu2 ?_
    refine ztR rfl (zcR rfl (as_cO (jchk (pdo u o)) 0 4 σ [.box [.int .i64 u.kind, .bool u.b, .bool u.n.neg, .str u.n.digits, .int .i64 u.n.exp, .str u.s, .sl false 8 (lcells u.l), .sl false 9 (mcells u.m)], .box [.int .i64 0, .bool false, .bool false, .str ⟨#[]⟩, .int .i64 0, .str ⟨#[]⟩, .nils, .nils], .box [.int .i64 o.op, .sl false 1 (srow o.pa), .sl false 1 (srow o.fr), .int .i64 o.v.kind, .bool o.v.b, .bool o.v.n.neg, .str o.v.n.digits, .int .i64 o.v.n.exp, .str o.v.s, .sl false 8 (lcells o.v.l), .sl false 9 (mcells o.v.m)], .box [.int .i64 (pdo u o).1.kind, .bool (pdo u o).1.b, .bool (pdo u o).1.n.neg, .str (pdo u o).1.n.digits, .int .i64 (pdo u o).1.n.exp, .str (pdo u o).1.s, .sl false 8 (lcells (pdo u o).1.l), .sl false 9 (mcells (pdo u o).1.m)], .box [.int .i64 0]] rfl)) (fun v12_2 s12_2 hr => ?_) (fun v12_2 s12_2 hr => ?_)
    rotate_left
    ·exact nomatch hr.1
    obtain ⟨hv, hh⟩ := hr
    cases hv
    subst hh
    refine zon ?_
    refine AWp_seq ?_
    refine AWp_drawL #[0, 0, 0, 6, 14, 30, 1, 127] Tryz.mixed (by decide +kernel) (by decide +kernel) ?_
    refine zd2 ?_
    refine zp1 ?_
    refine zd1 ?_
    refine yE rfl rfl (zoa) (⟨.inl rfl, trivial⟩) (trivial) ?_
    refine zd1 ?_
    refine yPN rfl rfl rfl (op_storeId (k := 1) (cs := [.int .i64 0, .bool false, .bool false, .str ⟨#[]⟩, .int .i64 0, .str ⟨#[]⟩, .nils, .nils]) rfl Tryz.sizeOf28 rfl rfl rfl rfl rfl (by decide)) (⟨.inr (op_storeId (k := 1) (cs := [.int .i64 0, .bool false, .bool false, .str ⟨#[]⟩, .int .i64 0, .str ⟨#[]⟩, .nils, .nils]) rfl Tryz.sizeOf28 rfl rfl rfl rfl rfl (by decide)), trivial⟩) ?_
    refine zd1 ?_
    refine RP.nil rfl ?_
    refine AWp_heap (σ' := σ ++ [.box [.int .i64 u.kind, .bool u.b, .bool u.n.neg, .str u.n.digits, .int .i64 u.n.exp, .str u.s, .sl false 8 (lcells u.l), .sl false 9 (mcells u.m)], .box [.int .i64 0, .bool false, .bool false, .str ⟨#[]⟩, .int .i64 0, .str ⟨#[]⟩, .nils, .nils], .box [.int .i64 o.op, .sl false 1 (srow o.pa), .sl false 1 (srow o.fr), .int .i64 o.v.kind, .bool o.v.b, .bool o.v.n.neg, .str o.v.n.digits, .int .i64 o.v.n.exp, .str o.v.s, .sl false 8 (lcells o.v.l), .sl false 9 (mcells o.v.m)], .box [.int .i64 (pdo u o).1.kind, .bool (pdo u o).1.b, .bool (pdo u o).1.n.neg, .str (pdo u o).1.n.digits, .int .i64 (pdo u o).1.n.exp, .str (pdo u o).1.s, .sl false 8 (lcells (pdo u o).1.l), .sl false 9 (mcells (pdo u o).1.m)], .box [.int .i64 (jchk (pdo u o))], .box [.int .i64 (i : Int), .int .i64 (jchk (pdo u o))]]) rfl ?_
    refine AWp_freezeI (cs := [.int .i64 (i : Int), .int .i64 (jchk (pdo u o))]) 5 (σ.length + 5) 0 87 rfl (by rw [get_own]; rfl) ?_ (by decide)
    rw [set_own]
    refine AWp_boxLeO 1 (bs' := [.int .i64 vz.kind, .bool vz.b, .bool vz.n.neg, .str vz.n.digits, .int .i64 vz.n.exp, .str vz.s, .sl false 8 (lcells vz.l), .sl false 9 (mcells vz.m)]) rfl ⟨AVle.refl _, AVle.refl _, AVle.refl _, AVle.refl _, AVle.refl _, AVle.refl _, nilL, nilM, trivial⟩ ?_
    refine zrt ?_
    have hj0 : ¬ jchk (jdo u o) = 0 := by rw [← hpc.1]; exact h5
    have hjb0 := jap_bad (r := l.drop (i + 1)) (i := i) rfl hj0
    rw [hz2] at hjb0
    rw [hjb0, jE_s hj0, hpc.1, vcells_eq]
    exact RQ_ret (rkvs_cons (rkv_ck rfl rfl rfl) (rkvs_cons (rkv_t rfl) rfl)) hcl (by simp [rks, AV.lt, AV.ltL, errV]) ⟨rfl, rfl⟩
   ·(try rw [h5]); replace h5 := zcl h5
    refine AWp_skip ?_
    refine AWp_regL ?_
    refine zv2 ?_
    refine AWp_regL ?_
    refine zv2 ?_
    have hj0 : jchk (jdo u o) = 0 := by rw [← hpc.1]; exact h5
    have hje := hpc.2 hj0
    refine ⟨(i + 1, (pdo u o).1), σ.length + 2, ⟨by simp only; omega, ?_, hpo.1.1, hpo.1.2.1, ?_⟩, by simp only; omega, by simp, ⟨rfl, rfl, rfl, rfl, rfl, rfl, trivial⟩, closed_own 2 hcl ?_, ?_, ?_⟩
    ·simp only; rw [hje, ← hz2, jap_ok hj0]
    ·simp only; rw [hje]; exact (jchk_0 hj0).2.1
    ·simp [ownLt, AO.cells, AV.ltL, AV.lt]
    ·simp [ltE, AV.lt, AV.ltL]
    ·exact take_own 2
 ·(try rw [h1]); replace h1 := zcl h1
  have hie : i = l.length := by omega
  subst hie
  rw [List.drop_length] at hz2
  refine AWp_exit ?_
  refine zw3 ?_
  refine zrt ?_
  rw [← hz2, jap, jE_n rfl, vcells_eq]
  exact RQ_ret (rkvs_cons (rkv_ck rfl rfl rfl) (rkvs_cons (rkv_t rfl) rfl)) hcl (by simp [rks, AV.lt, AV.ltL, errV]) ⟨rfl, rfl⟩
end Lg
set_option maxRecDepth 20000
set_option maxHeartbeats 4000000
namespace Lg
open Go Go.Proofs Go.RowKit
variable [GLay] 
end Lg
set_option maxRecDepth 20000
set_option maxHeartbeats 4000000
namespace Lg
open Go Go.Proofs Go.RowKit
variable [GLay] 
end Lg
set_option maxRecDepth 20000
set_option maxHeartbeats 4000000
namespace Lg
open Go Go.Proofs Go.RowKit
variable [GLay] 

theorem rptrM_c (v : JV) (key : ByteArray) (cs : List AV) (σ : List AO) (hc : vcells v = cs) (hb : v.m.length ≤ 1000000) (hs : (jfD v key).s.size ≤ 1000000) : ACalls Tryz.prog 111 [.agg cs, .str key] σ (Ret (.tup [.sl false 1 (srow (jptN v key)), .bool (jptB v key)]) σ) := by
 refine ACalls_body Tryz.func111 rfl Tryz.ntmps111 (res2 Tryz.results111) (Nat.le_of_ble_eq_true rfl) (fun hcl hal => ?_)
 subst hc
 rw [vcells_eq v]
 refine zw3 ?_
 refine zu2 ?_
 refine zt rfl (zc rfl (rfindQ_c v key _ _ (vcells_eq v) hb)) ?_
 rw [vcells_eq (jfD v key)]
 refine zv6 ?_
 refine AWp_seq ?_
 refine zu3 ?_
 refine zsp 18 rfl (fun h1 => ?_) fun h1 => ?_
 ·rw [h1]; replace h1 := zcl h1
  refine zv4 ?_
  refine AWp_condT rfl ?_
  refine zw2 ?_
  refine AWp_slotLe 4 rfl (AVle.nils false 1) ?_ (by decide)
  refine zrt ?_
  have hp := jpt_no (v := v) (key := key) (.inl (by simpa using h1))
  rw [hp.1, hp.2]
  exact ResQ_2 rfl rfl hcl (by simp [AV.lt, AV.ltL, AV.ltLL]) (Ret_of rfl)
 ·rw [h1]; replace h1 := zcl h1
  refine zv4 ?_
  refine AWp_cond rfl (fun h2 => ?_) (fun h2 => ?_)
  ·(try rw [h2]); replace h2 := zcl h2
   refine zw2 ?_
   refine AWp_slotLe 4 rfl (AVle.nils false 1) ?_ (by decide)
   refine zrt ?_
   have hp := jpt_no (v := v) (key := key) (.inr h2)
   rw [hp.1, hp.2]
   exact ResQ_2 rfl rfl hcl (by simp [AV.lt, AV.ltL, AV.ltLL]) (Ret_of rfl)
  ·(try rw [h2]); replace h2 := zcl h2
   have hp := jpt_yes (key := key) (by simpa using h1) h2
   refine AWp_skip ?_
   refine zu2 ?_
   refine zt rfl (zc rfl (rptrQ_c (jfD v key).s _ hs)) ?_
   refine zv5 ?_
   refine zw5 ?_
   refine zrt ?_
   rw [hp.1, hp.2]
   exact ResQ_2 rfl rfl hcl (by simp [AV.lt, AV.ltL]) (Ret_of (by rw [pEi_lt]))

end Lg
set_option maxRecDepth 20000
set_option maxHeartbeats 4000000
namespace Lg
open Go Go.Proofs Go.RowKit
variable [GLay] 
theorem rop_c (v : JV) (cs : List AV) (σ : List AO) (hc : vcells v = cs) (hjb : jb v) : ACalls Tryz.prog 76 [.agg cs] σ (OpR v σ) := by
 have hmz := ((jb_eq v).1 hjb).2.2.2.1
 have hjp := ((jb_eq _).1 (jfD_jb (key := bPath) hjb)).2.1
 have hjf := ((jb_eq _).1 (jfD_jb (key := bFrom) hjb)).2.1
 refine ACalls_bodyC Tryz.func76 rfl Tryz.ntmps76 (by rw [Tryz.results76]; exact (.ck Tryz.isAgg58 Tryz.sizeOf58 (.t .nil))) (Nat.le_of_ble_eq_true rfl) (fun hcl hal => ?_)
 subst hc
 rw [vcells_eq v]
 refine zw3 ?_
 refine zsr ?_
 refine zt rfl (op_buildSlice [[_], [_], [_], [_], [_], [_], [_]] rfl Tryz.underlying31 Tryz.sizeOf9 Tryz.zeroValue9 rfl (by decide) (by decide) rfl rfl rfl rfl rfl) ?_
 refine zv1 ?_
 refine zw1 ?_
 refine zu1 ?_
 refine zt rfl (zc rfl (rfindQ_c v bOp _ _ (vcells_eq v) hmz)) ?_
 rw [vcells_eq (jfD v bOp)]
 refine zv6 ?_
 refine AWp_seq ?_
 refine zw1 ?_
 refine AWp_block ?_
 -- loop 0 LIVE 1:box 2:alloc 3:assign 4:assign 5:alloc 6:alloc 7:assign 8:assign
 refine AWp_heap (σ' := σ ++ [.box [.int .i64 v.kind, .bool v.b, .bool v.n.neg, .str v.n.digits, .int .i64 v.n.exp, .str v.s, .sl false 8 (lcells v.l), .sl false 9 (mcells v.m)], .box [.int .i64 0, .nils, .nils, .int .i64 0, .bool false, .bool false, .str ⟨#[]⟩, .int .i64 0, .str ⟨#[]⟩, .nils, .nils], .box [.int .i64 (opc v 1), .nils, .nils, .int .i64 0, .bool false, .bool false, .str ⟨#[]⟩, .int .i64 0, .str ⟨#[]⟩, .nils, .nils], .box [.int .i64 (jfD v bOp).kind, .bool (jfD v bOp).b, .bool (jfD v bOp).n.neg, .str (jfD v bOp).n.digits, .int .i64 (jfD v bOp).n.exp, .str (jfD v bOp).s, .sl false 8 (lcells (jfD v bOp).l), .sl false 9 (mcells (jfD v bOp).m)]]) (by rw [opc_1]; rfl) ?_
 refine AWp_loop (ι := Nat) (fun i => 1 ≤ i ∧ i ≤ 7) (fun i => ⟨[], [(1, .ptr (σ.length + 0) 0), (2, .ptr (σ.length + 1) 0), (4, .sl true 1 (opNm.map fun x => [AV.str x])), (5, .ptr (σ.length + 2) 0), (6, .ptr (σ.length + 3) 0), (7, .bool (jfB v bOp)), (8, .int .i64 (i : Int))]⟩) (fun i => σ ++ [.box [.int .i64 v.kind, .bool v.b, .bool v.n.neg, .str v.n.digits, .int .i64 v.n.exp, .str v.s, .sl false 8 (lcells v.l), .sl false 9 (mcells v.m)], .box [.int .i64 0, .nils, .nils, .int .i64 0, .bool false, .bool false, .str ⟨#[]⟩, .int .i64 0, .str ⟨#[]⟩, .nils, .nils], .box [.int .i64 (opc v i), .nils, .nils, .int .i64 0, .bool false, .bool false, .str ⟨#[]⟩, .int .i64 0, .str ⟨#[]⟩, .nils, .nils], .box [.int .i64 (jfD v bOp).kind, .bool (jfD v bOp).b, .bool (jfD v bOp).n.neg, .str (jfD v bOp).n.digits, .int .i64 (jfD v bOp).n.exp, .str (jfD v bOp).s, .sl false 8 (lcells (jfD v bOp).l), .sl false 9 (mcells (jfD v bOp).m)]]) (fun i => 7 - i) (1) (⟨Nat.le_refl _, by decide⟩) ?_ rfl (fun i hi => ?_)
 ·exact ⟨rfl, rfl, rfl, rfl, rfl, rfl, rfl, rfl, trivial⟩
 obtain ⟨hi1, hi7⟩ := hi
 refine AWp_seq ?_
 refine zu3 ?_
 refine zsp 23 rfl (fun h1 => ?_) fun h1 => ?_
 ·rw [h1]; replace h1 := zcl h1
  obtain ⟨t, ht⟩ : ∃ t, opNm[i]? = some t := ⟨_, List.getElem?_eq_getElem (show i < opNm.length from (show i < 7 by omega))⟩
  have htr : (opNm.map fun x => [AV.str x])[i]? = some [.str t] := by rw [List.getElem?_map, ht]; rfl
  refine zv2 ?_
  refine AWp_cond rfl (fun h2 => ?_) (fun h2 => ?_)
  ·(try rw [h2]); replace h2 := zcl h2
   refine AWp_skip ?_
   refine AWp_seq ?_
   refine AWp_block ?_
   refine AWp_seq ?_
   refine AWp_drawL #[0, 1, 3, 7, 15, 31, 15, 15, 207, 463, 1023, 2047] Tryz.mixed (by decide +kernel) (by decide +kernel) ?_
   refine zd1 ?_
   refine zp1 ?_
   refine zd2 ?_
   refine zspr 31 rfl (fun h3 => ?_) fun h3 => ?_
   ·rw [h3]; replace h3 := zcl h3
    refine zd1 ?_
    refine zp1 ?_
    refine zd2 ?_
    refine yAG rfl rfl rfl (fun _ => op_indexAddr rfl Tryz.underlying31 Tryz.sizeOf9 rfl rfl (by omega) (htr)) ?_
    refine zp1 ?_
    refine zd2 ?_
    refine RP.nil rfl ?_
    refine AWp_cond rfl (fun h4 => ?_) (fun h4 => ?_)
    ·(try rw [h4]); replace h4 := zcl h4
     refine AWp_regL ?_
     refine zv3 ?_
     refine AWp_regL ?_
     refine zv3 ?_
     refine ⟨i + 1, σ.length + 4, by omega, by omega, by simp, ⟨rfl, rfl, rfl, rfl, rfl, rfl, rfl, rfl, trivial⟩, closed_own 4 hcl ?_, ?_, ?_⟩
     ·simp [ownLt, AO.cells, AV.ltL, AV.lt]
     ·simp [ltE, AV.lt, AV.ltL, ltLL_str]; (try exact ltLL_str _ _)
     ·rw [opc_hit h2 h3 ht hi1 h4]; exact take_own 4
    ·(try rw [h4]); replace h4 := zcl h4
     refine AWp_skip ?_
     refine AWp_regL ?_
     refine zv3 ?_
     refine ⟨i + 1, σ.length + 4, by omega, by omega, by simp, ⟨rfl, rfl, rfl, rfl, rfl, rfl, rfl, rfl, trivial⟩, closed_own 4 hcl ?_, ?_, ?_⟩
     ·simp [ownLt, AO.cells, AV.ltL, AV.lt]
     ·simp [ltE, AV.lt, AV.ltL, ltLL_str]; (try exact ltLL_str _ _)
     ·rw [opc_miss ht hi1 h4]; exact take_own 4
   ·rw [h3]; replace h3 := zcl h3
    refine zd8 ?_
    refine RP.nil rfl ?_
    refine AWp_condF rfl ?_
    refine AWp_skip ?_
    refine AWp_regL ?_
    refine zv3 ?_
    refine ⟨i + 1, σ.length + 4, by omega, by omega, by simp, ⟨rfl, rfl, rfl, rfl, rfl, rfl, rfl, rfl, trivial⟩, closed_own 4 hcl ?_, ?_, ?_⟩
    ·simp [ownLt, AO.cells, AV.ltL, AV.lt]
    ·simp [ltE, AV.lt, AV.ltL, ltLL_str]; (try exact ltLL_str _ _)
    ·rw [opc_k h3]; exact take_own 4
  ·(try rw [h2]); replace h2 := zcl h2
   refine AWp_exit ?_
   refine AWp_seq ?_
   have hex : opc v i = jopn v := by first | exact opc_no (by simpa using h2) i | (rw [show i = 7 by omega]; exact opc_7 v)
   rw [hex]
   have hor := jopn_range v
   refine AWp_regL ?_
   refine zg1 ?_
   refine zt rfl (zc rfl (rptrM_c v bPath _ _ (vcells_eq v) hmz hjp)) ?_
   refine zv5 ?_
   refine AWp_seq ?_
   refine zu4 ?_
   refine zsp 50 rfl (fun h5 => ?_) fun h5 => ?_
   ·rw [h5]; replace h5 := zcl h5
    refine zv3 ?_
    refine AWp_condT rfl ?_
    refine zw3 ?_
    refine zrt ?_
    refine RQ_ret (rkvs_cons (rkv_ck rfl rfl rfl) (rkvs_cons (rkv_t rfl) rfl)) hcl (by simp [rks, AV.lt, AV.ltL]) ⟨rfl, _, ⟨0, [], [], vz⟩, false, rfl, oz, (fun h => by cases h), fun _ => jop_n1 h5⟩
   ·rw [h5]; replace h5 := zcl h5
    refine zv3 ?_
    refine AWp_cond rfl (fun h6 => ?_) (fun h6 => ?_)
    ·(try rw [h6]); replace h6 := zcl h6
     refine zw3 ?_
     refine zrt ?_
     refine RQ_ret (rkvs_cons (rkv_ck rfl rfl rfl) (rkvs_cons (rkv_t rfl) rfl)) hcl (by simp [rks, AV.lt, AV.ltL]) ⟨rfl, _, ⟨0, [], [], vz⟩, false, rfl, oz, (fun h => by cases h), fun _ => jop_n2 (by simpa using h6)⟩
    ·(try rw [h6]); replace h6 := zcl h6
     refine AWp_skip ?_
     refine zw3 ?_
     refine AWp_seq ?_
     refine zu4 ?_
     refine zsp 60 rfl (fun h7 => ?_) fun h7 => ?_
     ·rw [h7]; replace h7 := zcl h7
      refine zv4 ?_
      refine AWp_condT rfl ?_
      refine zu1 ?_
      refine zt rfl (zc rfl (rptrM_c v bFrom _ _ (vcells_eq v) hmz hjf)) ?_
      refine zv5 ?_
      refine zw3 ?_
      refine zw4 ?_
      refine zrt ?_
      refine RQ_ret (rkvs_cons (rkv_ck rfl rfl rfl) (rkvs_cons (rkv_t rfl) rfl)) hcl (by simp [rks, AV.lt, AV.ltL]) ⟨rfl, _, ⟨jopn v, jptN v bPath, jptN v bFrom, vz⟩, jptB v bFrom, rfl, ?_, ?_, ?_⟩
      ·rw [ocells_eq]; exact ⟨AVle.refl _, AVle.refl _, AVle.refl _, AVle.refl _, AVle.refl _, AVle.refl _, AVle.refl _, AVle.refl _, AVle.refl _, nilL, nilM, trivial⟩
      ·intro h; rw [jop_fr (by simpa using h6) (by omega), if_pos h]
      ·intro h; rw [jop_fr (by simpa using h6) (by omega), if_neg (by rw [h]; decide)]
     ·rw [h7]; replace h7 := zcl h7
      refine zv4 ?_
      refine AWp_cond rfl (fun h8 => ?_) (fun h8 => ?_)
      ·(try rw [h8]); replace h8 := zcl h8
       refine zu1 ?_
       refine zt rfl (zc rfl (rptrM_c v bFrom _ _ (vcells_eq v) hmz hjf)) ?_
       refine zv5 ?_
       refine zw3 ?_
       refine zw4 ?_
       refine zrt ?_
       refine RQ_ret (rkvs_cons (rkv_ck rfl rfl rfl) (rkvs_cons (rkv_t rfl) rfl)) hcl (by simp [rks, AV.lt, AV.ltL]) ⟨rfl, _, ⟨jopn v, jptN v bPath, jptN v bFrom, vz⟩, jptB v bFrom, rfl, ?_, ?_, ?_⟩
       ·rw [ocells_eq]; exact ⟨AVle.refl _, AVle.refl _, AVle.refl _, AVle.refl _, AVle.refl _, AVle.refl _, AVle.refl _, AVle.refl _, AVle.refl _, nilL, nilM, trivial⟩
       ·intro h; rw [jop_fr (by simpa using h6) (by omega), if_pos h]
       ·intro h; rw [jop_fr (by simpa using h6) (by omega), if_neg (by rw [h]; decide)]
      ·(try rw [h8]); replace h8 := zcl h8
       refine AWp_skip ?_
       refine AWp_seq ?_
       refine zw3 ?_
       refine AWp_cond rfl (fun h9 => ?_) (fun h9 => ?_)
       ·(try rw [h9]); replace h9 := zcl h9
        refine zu1 ?_
        refine zt rfl (zc rfl (rfindQ_c v bValue _ _ (vcells_eq v) hmz)) ?_
        rw [vcells_eq (jfD v bValue)]
        refine zv6 ?_
        refine zw3 ?_
        refine zw4 ?_
        refine zrt ?_
        refine RQ_ret (rkvs_cons (rkv_ck rfl rfl rfl) (rkvs_cons (rkv_t rfl) rfl)) hcl (by simp [rks, AV.lt, AV.ltL]) ⟨rfl, _, ⟨jopn v, jptN v bPath, [], jfD v bValue⟩, jfB v bValue, rfl, ?_, ?_, ?_⟩
        ·rw [ocells_eq]; exact ⟨AVle.refl _, AVle.refl _, AVle.nils false 1, AVle.refl _, AVle.refl _, AVle.refl _, AVle.refl _, AVle.refl _, AVle.refl _, AVle.refl _, AVle.refl _, trivial⟩
        ·intro h; rw [jop_vl (by simpa using h6) (by omega) (by omega) (by omega), if_pos h]
        ·intro h; rw [jop_vl (by simpa using h6) (by omega) (by omega) (by omega), if_neg (by rw [h]; decide)]
       ·(try rw [h9]); replace h9 := zcl h9
        refine AWp_skip ?_
        refine zw3 ?_
        refine zrt ?_
        refine RQ_ret (rkvs_cons (rkv_ck rfl rfl rfl) (rkvs_cons (rkv_t rfl) rfl)) hcl (by simp [rks, AV.lt, AV.ltL]) ⟨rfl, _, ⟨jopn v, jptN v bPath, [], vz⟩, true, rfl, ?_, ?_, ?_⟩
        ·rw [ocells_eq]; exact ⟨AVle.refl _, AVle.refl _, AVle.nils false 1, AVle.refl _, AVle.refl _, AVle.refl _, AVle.refl _, AVle.refl _, AVle.refl _, nilL, nilM, trivial⟩
        ·intro _; rw [jop_rm (by simpa using h6) (by omega), show jopn v = 2 by omega]
        ·intro h; cases h
 ·rw [h1]; replace h1 := zcl h1
  refine zv2 ?_
  refine AWp_condF rfl ?_
  refine AWp_exit ?_
  refine AWp_seq ?_
  have hex : opc v i = jopn v := by first | exact opc_no (by simpa using h2) i | (rw [show i = 7 by omega]; exact opc_7 v)
  rw [hex]
  have hor := jopn_range v
  refine AWp_regL ?_
  refine zg1 ?_
  refine zt rfl (zc rfl (rptrM_c v bPath _ _ (vcells_eq v) hmz hjp)) ?_
  refine zv5 ?_
  refine AWp_seq ?_
  refine zu4 ?_
  refine zsp 50 rfl (fun h10 => ?_) fun h10 => ?_
  ·rw [h10]; replace h10 := zcl h10
   refine zv3 ?_
   refine AWp_condT rfl ?_
   refine zw3 ?_
   refine zrt ?_
   refine RQ_ret (rkvs_cons (rkv_ck rfl rfl rfl) (rkvs_cons (rkv_t rfl) rfl)) hcl (by simp [rks, AV.lt, AV.ltL]) ⟨rfl, _, ⟨0, [], [], vz⟩, false, rfl, oz, (fun h => by cases h), fun _ => jop_n1 h10⟩
  ·rw [h10]; replace h10 := zcl h10
   refine zv3 ?_
   refine AWp_cond rfl (fun h11 => ?_) (fun h11 => ?_)
   ·(try rw [h11]); replace h11 := zcl h11
    refine zw3 ?_
    refine zrt ?_
    refine RQ_ret (rkvs_cons (rkv_ck rfl rfl rfl) (rkvs_cons (rkv_t rfl) rfl)) hcl (by simp [rks, AV.lt, AV.ltL]) ⟨rfl, _, ⟨0, [], [], vz⟩, false, rfl, oz, (fun h => by cases h), fun _ => jop_n2 (by simpa using h11)⟩
   ·(try rw [h11]); replace h11 := zcl h11
    refine AWp_skip ?_
    refine zw3 ?_
    refine AWp_seq ?_
    refine zu4 ?_
    refine zsp 60 rfl (fun h12 => ?_) fun h12 => ?_
    ·rw [h12]; replace h12 := zcl h12
     refine zv4 ?_
     refine AWp_condT rfl ?_
     refine zu1 ?_
     refine zt rfl (zc rfl (rptrM_c v bFrom _ _ (vcells_eq v) hmz hjf)) ?_
     refine zv5 ?_
     refine zw3 ?_
     refine zw4 ?_
     refine zrt ?_
     refine RQ_ret (rkvs_cons (rkv_ck rfl rfl rfl) (rkvs_cons (rkv_t rfl) rfl)) hcl (by simp [rks, AV.lt, AV.ltL]) ⟨rfl, _, ⟨jopn v, jptN v bPath, jptN v bFrom, vz⟩, jptB v bFrom, rfl, ?_, ?_, ?_⟩
     ·rw [ocells_eq]; exact ⟨AVle.refl _, AVle.refl _, AVle.refl _, AVle.refl _, AVle.refl _, AVle.refl _, AVle.refl _, AVle.refl _, AVle.refl _, nilL, nilM, trivial⟩
     ·intro h; rw [jop_fr (by simpa using h11) (by omega), if_pos h]
     ·intro h; rw [jop_fr (by simpa using h11) (by omega), if_neg (by rw [h]; decide)]
    ·rw [h12]; replace h12 := zcl h12
     refine zv4 ?_
     refine AWp_cond rfl (fun h13 => ?_) (fun h13 => ?_)
     ·(try rw [h13]); replace h13 := zcl h13
      refine zu1 ?_
      refine zt rfl (zc rfl (rptrM_c v bFrom _ _ (vcells_eq v) hmz hjf)) ?_
      refine zv5 ?_
      refine zw3 ?_
      refine zw4 ?_
      refine zrt ?_
      refine RQ_ret (rkvs_cons (rkv_ck rfl rfl rfl) (rkvs_cons (rkv_t rfl) rfl)) hcl (by simp [rks, AV.lt, AV.ltL]) ⟨rfl, _, ⟨jopn v, jptN v bPath, jptN v bFrom, vz⟩, jptB v bFrom, rfl, ?_, ?_, ?_⟩
      ·rw [ocells_eq]; exact ⟨AVle.refl _, AVle.refl _, AVle.refl _, AVle.refl _, AVle.refl _, AVle.refl _, AVle.refl _, AVle.refl _, AVle.refl _, nilL, nilM, trivial⟩
      ·intro h; rw [jop_fr (by simpa using h11) (by omega), if_pos h]
      ·intro h; rw [jop_fr (by simpa using h11) (by omega), if_neg (by rw [h]; decide)]
     ·(try rw [h13]); replace h13 := zcl h13
      refine AWp_skip ?_
      refine AWp_seq ?_
      refine zw3 ?_
      refine AWp_cond rfl (fun h14 => ?_) (fun h14 => ?_)
      ·(try rw [h14]); replace h14 := zcl h14
       refine zu1 ?_
       refine zt rfl (zc rfl (rfindQ_c v bValue _ _ (vcells_eq v) hmz)) ?_
       rw [vcells_eq (jfD v bValue)]
       refine zv6 ?_
       refine zw3 ?_
       refine zw4 ?_
       refine zrt ?_
       refine RQ_ret (rkvs_cons (rkv_ck rfl rfl rfl) (rkvs_cons (rkv_t rfl) rfl)) hcl (by simp [rks, AV.lt, AV.ltL]) ⟨rfl, _, ⟨jopn v, jptN v bPath, [], jfD v bValue⟩, jfB v bValue, rfl, ?_, ?_, ?_⟩
       ·rw [ocells_eq]; exact ⟨AVle.refl _, AVle.refl _, AVle.nils false 1, AVle.refl _, AVle.refl _, AVle.refl _, AVle.refl _, AVle.refl _, AVle.refl _, AVle.refl _, AVle.refl _, trivial⟩
       ·intro h; rw [jop_vl (by simpa using h11) (by omega) (by omega) (by omega), if_pos h]
       ·intro h; rw [jop_vl (by simpa using h11) (by omega) (by omega) (by omega), if_neg (by rw [h]; decide)]
      ·(try rw [h14]); replace h14 := zcl h14
       refine AWp_skip ?_
       refine zw3 ?_
       refine zrt ?_
       refine RQ_ret (rkvs_cons (rkv_ck rfl rfl rfl) (rkvs_cons (rkv_t rfl) rfl)) hcl (by simp [rks, AV.lt, AV.ltL]) ⟨rfl, _, ⟨jopn v, jptN v bPath, [], vz⟩, true, rfl, ?_, ?_, ?_⟩
       ·rw [ocells_eq]; exact ⟨AVle.refl _, AVle.refl _, AVle.nils false 1, AVle.refl _, AVle.refl _, AVle.refl _, AVle.refl _, AVle.refl _, AVle.refl _, nilL, nilM, trivial⟩
       ·intro _; rw [jop_rm (by simpa using h11) (by omega), show jopn v = 2 by omega]
       ·intro h; cases h
end Lg
set_option maxRecDepth 20000
set_option maxHeartbeats 4000000
namespace Lg
open Go Go.Proofs Go.RowKit
variable [GLay] 
theorem rread_c (v : JV) (cs : List AV) (σ : List AO) (hc : vcells v = cs) (hjb : jb v) : ACalls Tryz.prog 52 [.agg cs] σ (Ret (.tup [.sl false 11 (orows (jrd v)), .int .i64 (jrdC v), .int .i64 (jrdA v)]) σ) := by
 obtain ⟨hb1, hb2, hb3, hb4, hb5, hb6⟩ := (jb_eq v).1 hjb
 refine ACalls_body Tryz.func52 rfl Tryz.ntmps52 (res3 Tryz.results52) (Nat.le_of_ble_eq_true rfl) (fun hcl hal => ?_)
 subst hc
 rw [vcells_eq v]
 have hll0 := lcells_length v.l
 refine zw4 ?_
 refine AWp_seq ?_
 refine zw3 ?_
 refine AWp_cond rfl (fun h1 => ?_) (fun h1 => ?_)
 ·(try rw [h1]); replace h1 := zcl h1
  refine zw3 ?_
  refine AWp_slotLe 2 rfl (AVle.nils false 11) ?_ (by decide)
  refine zrt ?_
  have hq := jrd_k4 h1
  rw [hq.1, hq.2.1, hq.2.2]
  exact ResQ_3 rfl rfl rfl hcl (by simp [AV.lt, AV.ltL, AV.ltLL]) (Ret_of rfl)
 ·(try rw [h1]); replace h1 := zcl h1
  refine AWp_skip ?_
  refine AWp_seq ?_
  refine zw4 ?_
  refine AWp_cond rfl (fun h2 => ?_) (fun h2 => ?_)
  ·(try rw [h2]); replace h2 := zcl h2
   refine zw3 ?_
   refine AWp_slotLe 2 rfl (AVle.nils false 11) ?_ (by decide)
   refine zrt ?_
   have hq := jrd_many h1 (by omega)
   rw [hq.1, hq.2.1, hq.2.2]
   exact ResQ_3 rfl rfl rfl hcl (by simp [AV.lt, AV.ltL, AV.ltLL]) (Ret_of rfl)
  ·(try rw [h2]); replace h2 := zcl h2
   refine AWp_skip ?_
   refine zw1 ?_
   refine AWp_seq ?_
   refine AWp_seq ?_
   refine AWp_ghostTO 5 11 1 rfl rfl ?_ (by decide)
   refine AWp_regL ?_
   refine zv1 ?_
   refine AWp_block ?_
   -- loop 0 LIVE 1:box 2:assign 3:assign 4:assign 5:assign 6:assign
   refine AWp_loop (ι := Nat × List JOp) (fun z => z.1 ≤ v.l.length ∧ jops (v.l.take z.1) = some z.2) (fun z => ⟨[], [(1, .ptr (σ.length + 0) 0), (5, .arr (σ.length + 1) z.1 11 0 z.1), (6, .int .i64 (z.1 : Int))]⟩) (fun z => σ ++ [.box [.int .i64 v.kind, .bool v.b, .bool v.n.neg, .str v.n.digits, .int .i64 v.n.exp, .str v.s, .sl false 8 (lcells v.l), .sl false 9 (mcells v.m)], .arr 11 z.1 (orows z.2).flatten]) (fun z => v.l.length - z.1) ((0, [])) (⟨Nat.zero_le _, rfl⟩) ?_ rfl (fun z hz => ?_)
   ·repeat' first | rfl | trivial | constructor
   obtain ⟨i, os⟩ := z
   obtain ⟨hi1, hos⟩ := hz
   simp only at hi1 hos ⊢
   have hol : os.length = i := by have := jops_len hos; rw [List.length_take] at this; omega
   have hll := lcells_length v.l
   refine AWp_seq ?_
   refine zw5 ?_
   refine AWp_cond rfl (fun h3 => ?_) (fun h3 => ?_)
   ·(try rw [h3]); replace h3 := zcl h3
    obtain ⟨x, hx⟩ : ∃ x, v.l[i]? = some x := ⟨_, List.getElem?_eq_getElem (show i < v.l.length by omega)⟩
    refine AWp_skip ?_
    refine AWp_seq ?_
    refine AWp_block ?_
    refine zu4 ?_
    rw [vcells_eq x]
    refine zg1 ?_
    refine ztR rfl (zcR rfl (vcells_eq x ▸ OpR.strong (rop_c x _ _ rfl (lb_get hb5 hx)))) (fun v9_5 s9_5 hr => ?_) (fun v9_5 s9_5 hr => ?_)
    rotate_left
    ·obtain ⟨_, _, _, hv, _⟩ := hr; cases hv
    obtain ⟨hh, xo, ob, hv, ht, hf⟩ := hr
    cases hv
    subst hh
    rw [ocells_eq xo]
    refine zv6 ?_
    refine AWp_seq ?_
    refine zw2 ?_
    refine AWp_cond rfl (fun h4 => ?_) (fun h4 => ?_)
    ·(try rw [h4]); replace h4 := zcl h4
     have hxn := hf (by simpa using h4)
     refine zw4 ?_
     refine AWp_slotLe 2 rfl (AVle.nils false 11) ?_ (by decide)
     refine zrt ?_
     have hq := jrd_bad h1 (by omega) hos hx hxn
     rw [hq.1, hq.2.1, hq.2.2]
     exact ResQ_3 rfl rfl rfl hcl (by simp [AV.lt, AV.ltL, AV.ltLL]) (Ret_of rfl)
    ·(try rw [h4]); replace h4 := zcl h4
     have hob : ob = true := by simpa using h4
     subst hob
     refine AWp_skip ?_
     refine AWp_regL ?_
     refine zg2 ?_
     refine zt rfl (op_buildSlice [[_, _, _, _, _, _, _, _, _, _, _]] rfl Tryz.underlying47 Tryz.sizeOf58 Tryz.zeroValue58 rfl (by decide) (by decide) rfl rfl rfl rfl rfl) ?_
     refine zt rfl (op_appendArrT rfl 1 (sz := 11) (m := 1) (len := i) (cs := _) rfl (.inr ⟨_, rfl⟩) Tryz.underlying47 Tryz.underlying47 Tryz.type58 rfl rfl rfl (by decide) rfl rfl (by rw [oflat_len, hol]) rfl rfl rfl (by show (i + 1) * 168 ≤ _; omega) (by omega) rfl) ?_
     refine zv1 ?_
     refine AWp_regL ?_
     refine zv3 ?_
     have hos2 : jops (v.l.take (i + 1)) = some (os ++ [xo]) := by rw [ltake_succ hx, jops_snoc hos, ht rfl]; rfl
     refine ⟨(i + 1, os ++ [xo]), σ.length + 2, ⟨by simp only; omega, hos2⟩, by simp only; omega, by simp, ⟨rfl, rfl, rfl, rfl, trivial⟩, closed_own 2 hcl ?_, ?_, ?_⟩
     ·simp [ownLt, AO.cells, AV.ltL, AV.lt, ltL_append]
     ·simp [ltE, AV.lt, AV.ltL]
     ·refine (take_own 2).trans ?_
      rw [orows_snoc, ocells_eq xo]; rfl
   ·(try rw [h3]); replace h3 := zcl h3
    refine AWp_exit ?_
    refine AWp_seq ?_
    have hie : i = v.l.length := by omega
    subst hie
    rw [List.take_length] at hos
    refine AWp_freezeAO 5 1 v.l.length 11 v.l.length (orows os) rfl rfl (orows_el _) (by rw [orows_len]; exact hol) (by decide) ?_ (by decide)
    refine AWp_regL ?_
    refine zv4 ?_
    refine zrt ?_
    have hq := jrd_ok h1 (by omega) hos
    rw [hq.1, hq.2.1, hq.2.2]
    exact ResQ_3 rfl rfl rfl hcl (by simp [AV.lt, AV.ltL]) (Ret_of rfl)
end Lg
set_option maxRecDepth 20000
set_option maxHeartbeats 4000000
namespace Lg
open Go Go.Proofs Go.RowKit
variable [GLay]  [ET]
theorem opsL_c (s : ByteArray) (σ : List AO) : ACalls Tryz.prog 23 [.str s] σ (Ret (.tup [.sl false 11 (orows (opQ s).1), .int .i64 (opQ s).2]) σ) := by
 refine ACalls_body Tryz.func23 rfl Tryz.ntmps23 (res2 Tryz.results23) (Nat.le_of_ble_eq_true rfl) (fun hcl hal => ?_)
 have hva := rValue_ok s
 refine zw2 ?_
 refine zu1 ?_
 refine zt rfl (zc rfl (value_c s _)) ?_
 rw [vcells_eq (rValue s).1]
 refine zv6 ?_
 refine AWp_seq ?_
 refine zw2 ?_
 refine AWp_cond rfl (fun h1 => ?_) (fun h1 => ?_)
 ·(try rw [h1]); replace h1 := zcl h1
  refine zw2 ?_
  refine AWp_slotLe 2 rfl (AVle.nils false 11) ?_ (by decide)
  refine zrt ?_
  rw [opQ_0 h1]
  exact ResQ_2 rfl rfl hcl (by simp [AV.lt, AV.ltL, AV.ltLL]) ⟨rfl, rfl⟩
 ·(try rw [h1]); replace h1 := zcl h1
  have hjb : jb (rValue s).1 := by
   rcases hva with h | h
   ·exact absurd h.1 h1
   ·exact h.2.2.1
  refine AWp_skip ?_
  refine zu1 ?_
  refine zt rfl (zc rfl (rread_c (rValue s).1 _ _ (vcells_eq _) hjb)) ?_
  refine zv7 ?_
  refine AWp_seq ?_
  refine zw2 ?_
  refine AWp_cond rfl (fun h2 => ?_) (fun h2 => ?_)
  ·(try rw [h2]); replace h2 := zcl h2
   refine zw2 ?_
   refine AWp_slotLe 2 rfl (AVle.nils false 11) ?_ (by decide)
   refine zrt ?_
   rw [opQ_b h1 h2]
   exact ResQ_2 rfl rfl hcl (by simp [AV.lt, AV.ltL, AV.ltLL]) ⟨rfl, rfl⟩
  ·(try rw [h2]); replace h2 := zcl h2
   refine AWp_skip ?_
   refine zw3 ?_
   refine zrt ?_
   rw [opQ_y h1 h2]
   exact ResQ_2 rfl rfl hcl (by simp [AV.lt, AV.ltL]) ⟨rfl, rfl⟩

theorem parse9v_c (σ : List AO) : ACalls Tryz.prog 30 [.str ⟨#[123, 34, 97, 34, 58, 91, 49, 93, 125]⟩] σ (Ret (.tup [.agg (vcells (rParse ex9v).1), .int .i64 (rParse ex9v).2.1, .int .i64 (rParse ex9v).2.2]) σ) := parse_c ex9v σ (by decide)
theorem parse9w_c (σ : List AO) : ACalls Tryz.prog 30 [.str ⟨#[123, 34, 98, 34, 58, 91, 49, 93, 125]⟩] σ (Ret (.tup [.agg (vcells (rParse ex9w).1), .int .i64 (rParse ex9w).2.1, .int .i64 (rParse ex9w).2.2]) σ) := parse_c ex9w σ (by decide)
theorem ops9_c (σ : List AO) : ACalls Tryz.prog 23 [.str ⟨#[91, 123, 34, 111, 112, 34, 58, 34, 109, 111, 118, 101, 34, 44, 34, 102, 114, 111, 109, 34, 58, 34, 47, 97, 34, 44, 34, 112, 97, 116, 104, 34, 58, 34, 47, 98, 34, 125, 44, 123, 34, 111, 112, 34, 58, 34, 116, 101, 115, 116, 34, 44, 34, 112, 97, 116, 104, 34, 58, 34, 47, 98, 47, 48, 34, 44, 34, 118, 97, 108, 117, 101, 34, 58, 50, 125, 93]⟩] σ (Ret (.tup [.sl false 11 (orows (jrd (rParse ex9p).1)), .int .i64 1]) σ) := by
  have h := opsL_c ex9p σ
  rw [ex9_q] at h; exact h
theorem papE_c (l : List JOp) (f : Bool) (es : List (List AV)) (he : es = orows l) (hl : l.length ≤ 1000000) (hob : ∀ o ∈ l, OPB o) (v : JV) (cs : List AV) (σ : List AO) (hc : vcells v = cs) (hjb : jb v) (hst : jst v) (hsz : jsize v ≤ 3000) : ACalls Tryz.prog 24 [.agg cs, .sl f 11 es] σ (Ret (.tup [.agg (vcells (jap l v 0).1), errV (jE (jap l v 0))]) σ) := by
  subst he; exact pap_c l f hl hob v cs σ hc hjb hst hsz
theorem jap_at0 : ∀ (l : List JOp) (v : JV) (i : Nat), (jap l v i).2.1 = 0 → (jap l v i).2.2 = 0
  | [], v, i, _ => rfl
  | o :: r, v, i, h => by
    by_cases hc : jchk (jdo v o) = 0
    · rw [jap_ok hc] at h ⊢; exact jap_at0 r _ _ h
    · rw [jap_bad rfl hc] at h; exact absurd h hc
theorem spotJ_c (r : JV × Int × Int) (σ : List AO) (h : r.2.1 = 0 → r.2.2 = 0) : ACalls Tryz.prog 26 [errV (jE r)] σ (Ret (.tup [.int .i64 r.2.1, .int .i64 r.2.2]) σ) := by
  by_cases h0 : r.2.1 = 0
  · rw [jE_n h0, h0, h h0]; exact spot_0 σ
  · rw [jE_s h0]; exact spot_s _ _ σ
theorem up9_c (σ : List AO) : ACalls Tryz.prog 22 [] σ (Ret (.bool true) σ) := by
 refine ACalls_body Tryz.func22 rfl Tryz.ntmps22 (res1 Tryz.results22) (Nat.le_of_ble_eq_true rfl) (fun hcl hal => ?_)
 refine zw1 ?_
 refine zsr ?_
 refine zt rfl (zc rfl (parse9v_c _)) ?_
 have hq2 := ex9_2
 have hq3 := ex9_3
 have hq4 := jq_eq ex9_4
 obtain ⟨hmy, hjb, hjz⟩ := rParse_ok ex9v ex9_0.1
 have hjz : jsize (rParse ex9v).1 ≤ 3000 := Int.le_trans hjz.1 (show ((ex9v.size : Nat) : Int) + 2 ≤ 3000 by decide)
 have hst := may_st hmy
 generalize (rParse ex9v).1 = v at hq2 hq3 hq4 hst hjb hjz ⊢
 rw [vcells_eq v]
 refine zv8 ?_
 refine zsr ?_
 refine zt rfl (zc rfl (ops9_c _)) ?_
 have hob := opQ_ok ex9p
 rw [ex9_q] at hob
 simp only at hob
 have hlen := ex9_1.2
 generalize jrd (rParse ex9p).1 = l at hob hlen hq2 hq3 hq4 ⊢
 have hol := orows_len l
 refine zv5 ?_
 refine zu2 ?_
 refine zt rfl (zc rfl (pap_c l _ (by omega) hob.2 v _ _ (vcells_eq v) hjb hst hjz)) ?_
 rw [vcells_eq (jap l v 0).1]
 refine zv6 ?_
 refine AWp_seq ?_
 refine AWp_heap (σ' := σ ++ [.box [.int .i64 v.kind, .bool v.b, .bool v.n.neg, .str v.n.digits, .int .i64 v.n.exp, .str v.s, .sl false 8 (lcells v.l), .sl false 9 (mcells v.m)], .box [.int .i64 (jap l v 0).1.kind, .bool (jap l v 0).1.b, .bool (jap l v 0).1.n.neg, .str (jap l v 0).1.n.digits, .int .i64 (jap l v 0).1.n.exp, .str (jap l v 0).1.s, .sl false 8 (lcells (jap l v 0).1.l), .sl false 9 (mcells (jap l v 0).1.m)]]) rfl ?_
 refine AWp_drawL #[0, 0, 0, 4, 12, 30, 63, 127, 255, 255, 0, 1535, 4095] Tryz.mixed (by decide +kernel) (by decide +kernel) ?_
 refine zp1 ?_
 refine zd4 ?_
 refine yA rfl rfl (fun _ => (by first | exact op_sliceSl _ _ rfl Tryz.underlying47 Tryz.sizeOf58 rfl (by first | exact ⟨_, rfl⟩ | rfl) (by first | exact ⟨_, rfl⟩ | rfl) (by omega) (by omega) (by omega) | exact op_sliceArr _ _ rfl Tryz.underlying47 Tryz.sizeOf58 rfl GET (by first | exact ⟨_, rfl⟩ | rfl) (by first | exact ⟨_, rfl⟩ | rfl) (by omega) (by omega) (by omega))) ?_
 have hes : ((orows l).drop 0).take ((min ((orows l).length : Int) 1).toNat - Int.toNat 0) = orows (l.take 1) := by rw [hol, hlen, show ((min ((2 : Nat) : Int) 1).toNat - Int.toNat 0) = 1 by decide]; simp [orows, List.map_take]
 refine yP rfl rfl (zc rfl (papE_c (l.take 1) _ _ hes (by rw [List.length_take]; omega) (fun o ho => hob.2 o (List.mem_of_mem_take ho)) v _ _ (vcells_eq v) hjb hst hjz)) (trivial) ?_
 rw [jE_n hq3, hq4, vcells_eq (rParse ex9w).1]
 refine zd3 ?_
 refine yE rfl rfl (zoa) (⟨.inr (by rw [← vcells_eq (rParse ex9w).1, ← hq4, ← jE_n hq3]; exact zc rfl (papE_c (l.take 1) _ _ hes (by rw [List.length_take]; omega) (fun o ho => hob.2 o (List.mem_of_mem_take ho)) v _ _ (vcells_eq v) hjb hst hjz)), ⟨.inr zoa, trivial⟩⟩) (trivial) ?_
 refine yEN rfl rfl rfl (zoa) (⟨.inl rfl, ⟨.inl rfl, trivial⟩⟩) (⟨rfl, trivial⟩) ?_
 refine zd1 ?_
 refine RP.nil rfl ?_
 refine zsr ?_
 refine zt rfl (zc rfl (parse9w_c _)) ?_
 have hjw := (rParse_ok ex9w ex9_0.2.1).2.1
 generalize (rParse ex9w).1 = w at hjw ⊢
 rw [vcells_eq w]
 refine zv8 ?_
 refine AWp_seq ?_
 refine AWp_heap (σ' := σ ++ [.box [.int .i64 v.kind, .bool v.b, .bool v.n.neg, .str v.n.digits, .int .i64 v.n.exp, .str v.s, .sl false 8 (lcells v.l), .sl false 9 (mcells v.m)], .box [.int .i64 (jap l v 0).1.kind, .bool (jap l v 0).1.b, .bool (jap l v 0).1.n.neg, .str (jap l v 0).1.n.digits, .int .i64 (jap l v 0).1.n.exp, .str (jap l v 0).1.s, .sl false 8 (lcells (jap l v 0).1.l), .sl false 9 (mcells (jap l v 0).1.m)], .box [.int .i64 w.kind, .bool w.b, .bool w.n.neg, .str w.n.digits, .int .i64 w.n.exp, .str w.s, .sl false 8 (lcells w.l), .sl false 9 (mcells w.m)], .box [.int .i64 w.kind, .bool w.b, .bool w.n.neg, .str w.n.digits, .int .i64 w.n.exp, .str w.s, .sl false 8 (lcells w.l), .sl false 9 (mcells w.m)]]) rfl ?_
 refine AWp_regL ?_
 refine zg1 ?_
 refine zt rfl (zc rfl (spotJ_c (jap l v 0) _ (jap_at0 l v 0))) ?_
 rw [hq2]
 refine zv5 ?_
 refine zu2 ?_
 refine zt rfl (zc rfl (rsameQ_c w _ _ (vcells_eq w) hjw)) ?_
 refine zv1 ?_
 refine zu1 ?_
 refine zt rfl (op_eqlT rfl rfl rfl rfl) ?_
 refine zg2 ?_
 refine ztG rfl rfl (op_eqlT rfl rfl rfl rfl) ?_
 refine zv9 ?_
 refine zrt ?_
 exact ResQ_1 rfl hcl (by simp [AV.lt, AV.ltL]) ⟨rfl, rfl⟩

end Lg
namespace Lg
open Go
section
variable [GLay]
theorem pwi_same {x : JV} : ∀ (l : List BL) (v : JV), jst v → jget l v = (x, true) → pwi (fun _ => (x, true)) l v = (v, true)
  | [], v, _, h => by
    have : v = x := congrArg Prod.fst h
    subst this; rfl
  | nm :: l, v, hv, h => by
    by_cases h4 : v.kind = 4
    · by_cases ho : jixO nm v.l.length false = true
      · obtain ⟨k, hk, hkl⟩ := jix_nat ho
        have ha : v.l[k]? = some v.l[k] := List.getElem?_eq_getElem hkl
        rw [jget_4 h4 ho hk ha] at h
        have ih := pwi_same l v.l[k] (st_get hv ha) h
        rw [pwi_4 h4 ho hk ha (by rw [ih]), ih]
        show (JV.mk v.kind v.b v.n v.s (v.l.set k v.l[k]) v.m, true) = _
        rw [List.set_getElem_self, jv_eta]
      · rw [jget_no4 h4 (by simpa using ho)] at h; cases h
    · by_cases h5 : v.kind = 5
      · by_cases hf : fnd v.m (ba nm) = true
        · obtain ⟨q, hq, hqk⟩ := fnd_get hf
          have hqk : q.1 = ba nm := hqk
          have hkl := (List.getElem?_eq_some_iff.1 hq).1
          rw [jget_f5 (st_ms hv) h5 hf hq] at h
          have ih := pwi_same l q.2 (st_mget hv hq) h
          rw [pwi_5 h4 h5 hf hq (by rw [ih]), ih]
          show (JV.mk v.kind v.b v.n v.s v.l (v.m.set (rinsK v.m (ba nm)) (ba nm, q.2)), true) = _
          have e : (ba nm, q.2) = v.m[rinsK v.m (ba nm)]'hkl := by
            rw [(List.getElem?_eq_some_iff.1 hq).2, ← hqk]
          rw [e, List.set_getElem_self, jv_eta]
        · rw [jget_nf5 (st_ms hv) h5 (by simpa using hf)] at h; cases h
      · rw [jget_nk h4 h5] at h; cases h
theorem jed_same {x v : JV} {l : List BL} (hv : jst v) (h : jget l v = (x, true)) : jed 3 x l v = (v, 0) := by
  rw [jed_rep x l v hv, pwi_same l v hv h]; rfl
theorem jap_stay {x v : JV} {l : List BL} (hv : jst v) (hz : jsize v ≤ 3000) (hd : jdepth v ≤ 32) (h : jget l v = (x, true)) : jap [⟨6, l, [], x⟩, ⟨4, l, l, vz⟩, ⟨3, l, [], x⟩] v 0 = (v, 0, 0) := by
  have hx : (jget l v).1 = x := by rw [h]
  have hg : ¬ (jget l v).2 = false := by rw [h]; exact fun z => by cases z
  have hk : jchk (v, 0) = 0 := jchk_00 rfl (by show ¬ 3000 < jsize v; omega) (by show ¬ 32 < jdepth v; omega)
  have h1 : jdo v ⟨6, l, [], x⟩ = (v, 0) := jdo_t0 (by show ¬ (6 : Int) ≤ 3; decide) (fun z => absurd z.1 (by show ¬ (6 : Int) = 4; decide)) (by rw [if_pos rfl]; exact hg) rfl hx
  have h2 : jdo v ⟨4, l, l, vz⟩ = (v, 0) := jdo_stay (by show ¬ (4 : Int) ≤ 3; decide) (fun z => absurd z.2.1 (Nat.lt_irrefl _)) (by rw [if_neg (by show ¬ (4 : Int) = 6; decide)]; exact hg) (by show ¬ (4 : Int) = 6; decide) rfl rfl
  have h3 : jdo v ⟨3, l, [], x⟩ = (v, 0) := (jdo_le3 (by show (3 : Int) ≤ 3; decide)).trans (jed_same hv h)
  rw [jap_ok (by rw [h1]; exact hk), h1, jap_ok (by rw [h2]; exact hk), h2, jap_ok (by rw [h3]; exact hk), h3]; rfl
theorem jap_parts (l : List JOp) (v : JV) (k : Nat) (hk : k ≤ l.length) : (¬ (jap (l.take k) v 0).2.1 = 0 → jap l v 0 = jap (l.take k) v 0) ∧
    ((jap (l.take k) v 0).2.1 = 0 → (jap l v 0).1 = (jap (l.drop k) (jap (l.take k) v 0).1 0).1 ∧ (jap l v 0).2.1 = (jap (l.drop k) (jap (l.take k) v 0).1 0).2.1 ∧ (¬ (jap (l.drop k) (jap (l.take k) v 0).1 0).2.1 = 0 → (jap l v 0).2.2 = (jap (l.drop k) (jap (l.take k) v 0).1 0).2.2 + k)) := by
  have h := jap_app (l.take k) (l.drop k) v 0
  rw [List.take_append_drop, List.length_take, Nat.min_eq_left hk, Nat.zero_add] at h
  constructor
  · intro h0; rw [h, if_neg h0]
  · intro h0
    rw [h, if_pos h0]
    obtain ⟨h1, h2, h3⟩ := jap_shift (l.drop k) (jap (l.take k) v 0).1 k 0
    refine ⟨h1, h2, fun h4 => ?_⟩
    have := h3 (by rw [h2]; exact h4)
    rw [Nat.add_zero] at this; exact this
theorem jap_at : ∀ (l : List JOp) (v : JV) (i : Nat), 0 ≤ (jap l v i).2.2 ∧ (jap l v i).2.2 ≤ i + l.length
  | [], v, i => ⟨Int.le_refl _, by show (0 : Int) ≤ _; omega⟩
  | o :: r, v, i => by
    by_cases hc : jchk (jdo v o) = 0
    · rw [jap_ok hc]
      have := jap_at r (jdo v o).1 (i + 1)
      rw [List.length_cons]; omega
    · rw [jap_bad rfl hc, List.length_cons]
      show 0 ≤ (i : Int) ∧ (i : Int) ≤ _; omega
theorem jE_some {r : JV × Int × Int} : (jE r).isSome = true ↔ ¬ r.2.1 = 0 := by
  unfold jE; split
  · rename_i h; simp [h]
  · rename_i h; simp [h]
end
end Lg
namespace Lg
open Go Go.RowKit
variable [GLay]
variable {P : Program} {N : Nat} {σ l : List AO} {e : Env} {Q : QA} {o : Oper}
section
variable {T T' : TypeId} {x y : Operand} {k : IntKind} {a b r : Int}
end
end Lg
namespace Lg
open Go Go.RowKit
variable [GLay]
variable {P : Program} {σ : List AO} {e : Env} {o : Oper}
end Lg
namespace Lg
open Go Go.RowKit
variable [GLay]
variable {P : Program} {σ : List AO} {s : ByteArray} {i j : Int} {a : AV} {T : TypeId} {l l' : List UInt8}
end Lg
namespace Lg
open Go Go.RowKit
variable [GLay]
variable {P : Program} {σ : List AO} {e : Env} {o : Oper}
section
variable {s : ByteArray} {i j : Int} {a a' : AV} {T : TypeId} {l l' : List UInt8}
end
end Lg
namespace Lg
open Go Go.RowKit
variable [GLay]
variable {P : Program} {σ : List AO} {e : Env} {o : Oper}
end Lg
namespace Lg
open Go Go.RowKit
variable [GLay]
variable {P : Program} {N : Nat} {σ : List AO} {e : Env} {Q : QA} {s : ByteArray} {i : Int} {a : AV} {T : TypeId} {l : List UInt8}
end Lg
namespace Lg
open Go Go.RowKit
variable [GLay]
variable {P : Program} {σ : List AO} {e : Env} {o : Oper}
theorem tmod_emod (n m : Int) (h : 0 < m) : (if n.tmod m < 0 then n.tmod m + m else n.tmod m) = n % m ∧ -m < n.tmod m ∧ n.tmod m < m := by
  have h1 := Int.emod_nonneg n (show m ≠ 0 by omega)
  have h2 := Int.emod_lt_of_pos n h
  rcases Int.le_total 0 n with hn | hn
  · rw [Int.tmod_eq_emod_of_nonneg hn, if_neg (by omega)]; omega
  · have h3 := Int.tmod_eq_emod (a := n) (b := m)
    split at h3 <;> (split <;> omega)
end Lg
set_option maxRecDepth 20000
set_option maxHeartbeats 4000000
namespace Lg
open Go Go.Proofs Go.RowKit
variable [GLay] 
theorem pick_c (n m : Int) (σ : List AO) (hm : 0 < m) (hm2 : m ≤ 1000000000) : ACalls Tryz.prog 27 [.int .i64 n, .int .i64 m] σ (Ret (.int .i64 (n % m)) σ) := by
 refine ACalls_body Tryz.func27 rfl Tryz.ntmps27 (res1 Tryz.results27) (Nat.le_of_ble_eq_true rfl) (fun hcl hal => ?_)
 obtain ⟨he, hlo, hup⟩ := tmod_emod n m hm
 refine zw1 ?_
 refine zu2 ?_
 refine zt rfl (op_remT rfl rfl rfl (by omega)) ?_
 refine zv1 ?_
 refine AWp_seq ?_
 refine zw2 ?_
 refine AWp_cond rfl (fun h1 => ?_) (fun h1 => ?_)
 ·(try rw [h1]); replace h1 := zcl h1
  refine AWp_regL ?_
  refine zv4 ?_
  refine zw2 ?_
  refine zrt ?_
  first | (rw [if_pos (by assumption)] at he; rw [← he]; exact ResQ_10 rfl hcl trivial (Ret_of rfl)) | (rw [if_neg (by omega)] at he; rw [← he]; exact ResQ_10 rfl hcl trivial (Ret_of rfl))
 ·(try rw [h1]); replace h1 := zcl h1
  refine AWp_skip ?_
  refine zw2 ?_
  refine zrt ?_
  first | (rw [if_pos (by assumption)] at he; rw [← he]; exact ResQ_10 rfl hcl trivial (Ret_of rfl)) | (rw [if_neg (by omega)] at he; rw [← he]; exact ResQ_10 rfl hcl trivial (Ret_of rfl))
end Lg
set_option maxRecDepth 20000
set_option maxHeartbeats 4000000
namespace Lg
open Go Go.Proofs Go.RowKit
variable [GLay]  [ET]
theorem papW_c (nm : List BL) (x v : JV) (cs : List AV) (σ : List AO) (hl : nm.length ≤ 2000000) (hn : ∀ n ∈ nm, n.length ≤ 1000000) (hxb : jb x) (hxs : jst x) (hxz : jsize x ≤ 3000) (hc : vcells v = cs) (hjb : jb v) (hst : jst v) (hsz : jsize v ≤ 3000) : ACalls Tryz.prog 24 [.agg cs, .sl true 11 [[.int .i64 6, .sl false 1 (srow nm), .nils, .int .i64 x.kind, .bool x.b, .bool x.n.neg, .str x.n.digits, .int .i64 x.n.exp, .str x.s, .sl false 8 (lcells x.l), .sl false 9 (mcells x.m)], [.int .i64 4, .sl false 1 (srow nm), .sl false 1 (srow nm), .int .i64 0, .bool false, .bool false, .str ⟨#[]⟩, .int .i64 0, .str ⟨#[]⟩, .nils, .nils], [.int .i64 3, .sl false 1 (srow nm), .nils, .int .i64 x.kind, .bool x.b, .bool x.n.neg, .str x.n.digits, .int .i64 x.n.exp, .str x.s, .sl false 8 (lcells x.l), .sl false 9 (mcells x.m)]]] σ (Ret (.tup [.agg (vcells (jap [⟨6, nm, [], x⟩, ⟨4, nm, nm, vz⟩, ⟨3, nm, [], x⟩] v 0).1), errV (jE (jap [⟨6, nm, [], x⟩, ⟨4, nm, nm, vz⟩, ⟨3, nm, [], x⟩] v 0))]) σ) := by
  have he : ∀ n ∈ ([] : List BL), n.length ≤ 1000000 := fun n hn => by cases hn
  have hz1 : jsize vz ≤ 3000 := by rw [vz_size]; decide
  have hob : ∀ o ∈ ([⟨6, nm, [], x⟩, ⟨4, nm, nm, vz⟩, ⟨3, nm, [], x⟩] : List JOp), OPB o := by
    intro o ho
    simp only [List.mem_cons, List.not_mem_nil, or_false] at ho
    rcases ho with rfl | rfl | rfl
    · exact ⟨by show (1 : Int) ≤ 6; decide, by show (6 : Int) ≤ 6; decide, hxb, hxs, hxz, hl, Nat.zero_le _, hn, he⟩
    · exact ⟨by show (1 : Int) ≤ 4; decide, by show (4 : Int) ≤ 6; decide, vz_jb0, st_vz, hz1, hl, hl, hn, hn⟩
    · exact ⟨by show (1 : Int) ≤ 3; decide, by show (3 : Int) ≤ 6; decide, hxb, hxs, hxz, hl, Nat.zero_le _, hn, he⟩
  refine ACalls.conv (args' := [.agg cs, .sl true 11 (orows [⟨6, nm, [], x⟩, ⟨4, nm, nm, vz⟩, ⟨3, nm, [], x⟩])]) ⟨AVle.refl _, AVle.sl ?_ rfl (orows_el _), trivial⟩ (pap_c [⟨6, nm, [], x⟩, ⟨4, nm, nm, vz⟩, ⟨3, nm, [], x⟩] true (by show 3 ≤ 1000000; decide) hob v cs σ hc hjb hst hsz)
  simp only [orows, List.map, ocells_eq]
  exact ⟨AVle.refl _, AVle.refl _, AVle.nils false 1, AVle.refl _, AVle.refl _, AVle.refl _, AVle.refl _, AVle.refl _, AVle.refl _, AVle.refl _, AVle.refl _, AVle.refl _, AVle.refl _, AVle.refl _, AVle.refl _, AVle.refl _, AVle.refl _, AVle.refl _, AVle.refl _, AVle.refl _, nilL, nilM, AVle.refl _, AVle.refl _, AVle.nils false 1, AVle.refl _, AVle.refl _, AVle.refl _, AVle.refl _, AVle.refl _, AVle.refl _, AVle.refl _, AVle.refl _, trivial⟩
theorem applyParts_c (s p : ByteArray) (n : Int) (path : ByteArray) (σ : List AO) (hp : path.size ≤ 140737488355328) : ACalls Tryz.prog 6 [.str s, .str p, .int .i64 n, .str path] σ (Ret (.bool true) σ) := by
 refine ACalls_body Tryz.func6 rfl Tryz.ntmps6 (res1 Tryz.results6) (Nat.le_of_ble_eq_true rfl) (fun hcl hal => ?_)
 have hva := rValue_ok s
 have hvd := rValue_dep s
 have hoq := opQ_ok p
 have hln := ptQ_l path
 have hll := ptQ_n2 path
 refine zw1 ?_
 refine zsr ?_
 refine zt rfl (zc rfl (up9_c _)) ?_
 refine zv1 ?_
 refine zu1 ?_
 refine zt rfl (zc rfl (value_c s _)) ?_
 generalize (rValue s).1 = v at hva hvd ⊢
 generalize (rValue s).2 = ok at hva hvd ⊢
 rw [vcells_eq v]
 refine zv6 ?_
 refine zu1 ?_
 refine zt rfl (zc rfl (opsL_c p _)) ?_
 generalize (opQ p).1 = l at hoq ⊢
 generalize (opQ p).2 = ok2
 have hol := orows_len l
 refine zv5 ?_
 refine AWp_seq ?_
 refine zu3 ?_
 refine zsp 49 rfl (fun h1 => ?_) fun h1 => ?_
 ·rw [h1]; replace h1 := zcl h1
  refine zv3 ?_
  refine AWp_condT rfl ?_
  refine zw2 ?_
  refine zrt ?_
  exact ResQ_1 rfl hcl (by simp [AV.lt, AV.ltL]) ⟨rfl, rfl⟩
 ·rw [h1]; replace h1 := zcl h1
  refine zv3 ?_
  refine AWp_cond rfl (fun h2 => ?_) (fun h2 => ?_)
  ·(try rw [h2]); replace h2 := zcl h2
   refine zw2 ?_
   refine zrt ?_
   exact ResQ_1 rfl hcl (by simp [AV.lt, AV.ltL]) ⟨rfl, rfl⟩
  ·(try rw [h2]); replace h2 := zcl h2
   obtain ⟨hmy, hjv, hsv⟩ : jmay v ∧ jb v ∧ jsize v ≤ 2002 := by
    rcases hva with ⟨h, _⟩ | ⟨_, h⟩
    ·exfalso; omega
    ·exact h
   have hvd := hvd (by omega)
   have hkb := may_kb 2002 v hsv hmy
   have hst := may_st hmy
   have hsz : jsize v ≤ 3000 := by omega
   refine AWp_skip ?_
   refine zu1 ?_
   refine zt rfl (zc rfl (vcells_eq v ▸ rsh_any 2002 v _ hsv hjv hkb (by omega))) ?_
   refine zv1 ?_
   refine zu4 ?_
   refine zt rfl (zc rfl (pick_c n _ _ (by omega) (by omega))) ?_
   obtain ⟨k, hk, hkl⟩ : ∃ k : Nat, n % (((orows l).length : Int) + 1) = (k : Int) ∧ k ≤ l.length := by
    have h1 := Int.emod_nonneg n (show ((orows l).length : Int) + 1 ≠ 0 by omega)
    have h2 := Int.emod_lt_of_pos n (show 0 < ((orows l).length : Int) + 1 by omega)
    exact ⟨(n % (((orows l).length : Int) + 1)).toNat, by omega, by omega⟩
   rw [hk]
   have hpp := jap_parts l v k hkl
   have hw0 := jap_wf l v 0 hoq.2 hjv hst hsz
   have hw1 := jap_wf (l.take k) v 0 (fun o ho => hoq.2 o (List.mem_of_mem_take ho)) hjv hst hsz
   have hw2 := jap_wf (l.drop k) (jap (l.take k) v 0).1 0 (fun o ho => hoq.2 o (List.mem_of_mem_drop ho)) hw1.1 hw1.2.1 hw1.2.2
   refine zv1 ?_
   refine AWp_seq ?_
   refine AWp_heap (σ' := σ ++ [.box [.int .i64 v.kind, .bool v.b, .bool v.n.neg, .str v.n.digits, .int .i64 v.n.exp, .str v.s, .sl false 8 (lcells v.l), .sl false 9 (mcells v.m)]]) rfl ?_
   refine AWp_regL ?_
   refine zg2 ?_
   refine zt rfl (zc rfl (pap_c l _ (by omega) hoq.2 v _ _ (vcells_eq v) hjv hst hsz)) ?_
   rw [vcells_eq (jap l v 0).1]
   refine zv6 ?_
   refine AWp_seq ?_
   refine AWp_heap (σ' := σ ++ [.box [.int .i64 v.kind, .bool v.b, .bool v.n.neg, .str v.n.digits, .int .i64 v.n.exp, .str v.s, .sl false 8 (lcells v.l), .sl false 9 (mcells v.m)], .box [.int .i64 (jap l v 0).1.kind, .bool (jap l v 0).1.b, .bool (jap l v 0).1.n.neg, .str (jap l v 0).1.n.digits, .int .i64 (jap l v 0).1.n.exp, .str (jap l v 0).1.s, .sl false 8 (lcells (jap l v 0).1.l), .sl false 9 (mcells (jap l v 0).1.m)]]) rfl ?_
   refine AWp_drawL #[0, 0, 0, 6, 15, 31, 63, 63, 0, 383, 1023] Tryz.mixed (by decide +kernel) (by decide +kernel) ?_
   refine zp1 ?_
   refine zd2 ?_
   refine yA rfl rfl (fun _ => (by first | exact op_sliceSl _ _ rfl Tryz.underlying47 Tryz.sizeOf58 rfl (by first | exact ⟨_, rfl⟩ | rfl) (by first | exact ⟨_, rfl⟩ | rfl) (by omega) (by omega) (by omega) | exact op_sliceArr _ _ rfl Tryz.underlying47 Tryz.sizeOf58 rfl GET (by first | exact ⟨_, rfl⟩ | rfl) (by first | exact ⟨_, rfl⟩ | rfl) (by omega) (by omega) (by omega))) ?_
   have ht1 : ((orows l).drop 0).take ((k : Int).toNat - Int.toNat 0) = orows (l.take k) := by simp [orows, List.map_take]
   refine yP rfl rfl (zc rfl (papE_c (l.take k) _ _ ht1 (by rw [List.length_take]; omega) (fun o ho => hoq.2 o (List.mem_of_mem_take ho)) v _ _ (vcells_eq v) hjv hst hsz)) (trivial) ?_
   rw [vcells_eq (jap (l.take k) v 0).1]
   refine zd3 ?_
   refine yE rfl rfl (zoa) (⟨.inr (by rw [← vcells_eq (jap (l.take k) v 0).1]; exact zc rfl (papE_c (l.take k) _ _ ht1 (by rw [List.length_take]; omega) (fun o ho => hoq.2 o (List.mem_of_mem_take ho)) v _ _ (vcells_eq v) hjv hst hsz)), ⟨.inr zoa, trivial⟩⟩) (trivial) ?_
   refine yEN rfl rfl rfl (zoa) (⟨.inl rfl, ⟨.inl rfl, trivial⟩⟩) (⟨rfl, trivial⟩) ?_
   refine zd1 ?_
   refine RP.nil rfl ?_
   refine zu1 ?_
   refine zt rfl (zc rfl (spotJ_c (jap l v 0) _ (jap_at0 l v 0))) ?_
   refine zv5 ?_
   refine AWp_seq ?_
   refine zu1 ?_
   refine zt rfl (op_neErr rfl Tryz.underlying35 rfl) ?_
   refine zon ?_
   refine AWp_cond rfl (fun h3 => ?_) (fun h3 => ?_)
   ·(try rw [h3]); replace h3 := zcl h3
    have hr := hpp.1 (jE_some.1 h3)
    refine zu1 ?_
    refine zt rfl (zc rfl (spotJ_c (jap (l.take k) v 0) _ (jap_at0 _ v 0))) ?_
    refine zv5 ?_
    refine zu4 ?_
    refine ztG rfl rfl (op_eqlT rfl rfl rfl (by rw [hr])) ?_
    refine zg4 ?_
    refine ztG rfl rfl (op_eqlT rfl rfl rfl (by rw [hr])) ?_
    refine zg3 ?_
    refine ztG rfl rfl (zc rfl (vcells_eq v ▸ rsh_any 2002 v _ hsv hjv hkb (by omega))) ?_
    refine zg1 ?_
    refine ztG rfl rfl (op_seqT rfl rfl rfl rfl) ?_
    refine zv2 ?_
    refine zrt ?_
    exact ResQ_1 rfl hcl (by simp [AV.lt, AV.ltL]) ⟨rfl, rfl⟩
   ·(try rw [h3]); replace h3 := zcl h3
    have hc0 : (jap (l.take k) v 0).2.1 = 0 := Classical.byContradiction fun z => by rw [jE_some.2 z] at h3; cases h3
    obtain ⟨hp1, hp2, hp3⟩ := hpp.2 hc0
    have ht2 : ∀ f : Nat, ((orows l).drop (k : Int).toNat).take ((orows l).length - (k : Int).toNat) = orows (l.drop k) := fun _ => by
     rw [Int.toNat_natCast, List.take_of_length_le (by simp)]; simp [orows, List.map_drop]
    have ht2 := ht2 0
    refine AWp_skip ?_
    refine AWp_seq ?_
    refine AWp_heap (σ' := σ ++ [.box [.int .i64 v.kind, .bool v.b, .bool v.n.neg, .str v.n.digits, .int .i64 v.n.exp, .str v.s, .sl false 8 (lcells v.l), .sl false 9 (mcells v.m)], .box [.int .i64 (jap l v 0).1.kind, .bool (jap l v 0).1.b, .bool (jap l v 0).1.n.neg, .str (jap l v 0).1.n.digits, .int .i64 (jap l v 0).1.n.exp, .str (jap l v 0).1.s, .sl false 8 (lcells (jap l v 0).1.l), .sl false 9 (mcells (jap l v 0).1.m)], .box [.int .i64 (jap (l.take k) v 0).1.kind, .bool (jap (l.take k) v 0).1.b, .bool (jap (l.take k) v 0).1.n.neg, .str (jap (l.take k) v 0).1.n.digits, .int .i64 (jap (l.take k) v 0).1.n.exp, .str (jap (l.take k) v 0).1.s, .sl false 8 (lcells (jap (l.take k) v 0).1.l), .sl false 9 (mcells (jap (l.take k) v 0).1.m)]]) rfl ?_
    refine AWp_drawL #[0, 0, 0, 6, 15, 31, 63, 63, 0, 383, 1023] Tryz.mixed (by decide +kernel) (by decide +kernel) ?_
    refine zp1 ?_
    refine zd2 ?_
    refine yA rfl rfl (fun _ => (by first | exact op_sliceSl _ _ rfl Tryz.underlying47 Tryz.sizeOf58 rfl (by first | exact ⟨_, rfl⟩ | rfl) (by first | exact ⟨_, rfl⟩ | rfl) (by omega) (by omega) (by omega) | exact op_sliceArr _ _ rfl Tryz.underlying47 Tryz.sizeOf58 rfl GET (by first | exact ⟨_, rfl⟩ | rfl) (by first | exact ⟨_, rfl⟩ | rfl) (by omega) (by omega) (by omega))) ?_
    refine yP rfl rfl (zc rfl (papE_c (l.drop k) _ _ ht2 (by rw [List.length_drop]; omega) (fun o ho => hoq.2 o (List.mem_of_mem_drop ho)) (jap (l.take k) v 0).1 _ _ (vcells_eq _) hw1.1 hw1.2.1 hw1.2.2)) (trivial) ?_
    rw [vcells_eq (jap (l.drop k) (jap (l.take k) v 0).1 0).1]
    refine zd3 ?_
    refine yE rfl rfl (zoa) (⟨.inr (by rw [← vcells_eq (jap (l.drop k) (jap (l.take k) v 0).1 0).1]; exact zc rfl (papE_c (l.drop k) _ _ ht2 (by rw [List.length_drop]; omega) (fun o ho => hoq.2 o (List.mem_of_mem_drop ho)) (jap (l.take k) v 0).1 _ _ (vcells_eq _) hw1.1 hw1.2.1 hw1.2.2)), ⟨.inr zoa, trivial⟩⟩) (trivial) ?_
    refine yEN rfl rfl rfl (zoa) (⟨.inl rfl, ⟨.inl rfl, trivial⟩⟩) (⟨rfl, trivial⟩) ?_
    refine zd1 ?_
    refine RP.nil rfl ?_
    refine AWp_seq ?_
    refine AWp_heap (σ' := σ ++ [.box [.int .i64 v.kind, .bool v.b, .bool v.n.neg, .str v.n.digits, .int .i64 v.n.exp, .str v.s, .sl false 8 (lcells v.l), .sl false 9 (mcells v.m)], .box [.int .i64 (jap l v 0).1.kind, .bool (jap l v 0).1.b, .bool (jap l v 0).1.n.neg, .str (jap l v 0).1.n.digits, .int .i64 (jap l v 0).1.n.exp, .str (jap l v 0).1.s, .sl false 8 (lcells (jap l v 0).1.l), .sl false 9 (mcells (jap l v 0).1.m)], .box [.int .i64 (jap (l.take k) v 0).1.kind, .bool (jap (l.take k) v 0).1.b, .bool (jap (l.take k) v 0).1.n.neg, .str (jap (l.take k) v 0).1.n.digits, .int .i64 (jap (l.take k) v 0).1.n.exp, .str (jap (l.take k) v 0).1.s, .sl false 8 (lcells (jap (l.take k) v 0).1.l), .sl false 9 (mcells (jap (l.take k) v 0).1.m)], .box [.int .i64 (jap (l.drop k) (jap (l.take k) v 0).1 0).1.kind, .bool (jap (l.drop k) (jap (l.take k) v 0).1 0).1.b, .bool (jap (l.drop k) (jap (l.take k) v 0).1 0).1.n.neg, .str (jap (l.drop k) (jap (l.take k) v 0).1 0).1.n.digits, .int .i64 (jap (l.drop k) (jap (l.take k) v 0).1 0).1.n.exp, .str (jap (l.drop k) (jap (l.take k) v 0).1 0).1.s, .sl false 8 (lcells (jap (l.drop k) (jap (l.take k) v 0).1 0).1.l), .sl false 9 (mcells (jap (l.drop k) (jap (l.take k) v 0).1 0).1.m)]]) rfl ?_
    refine AWp_regL ?_
    refine zg1 ?_
    refine zt rfl (zc rfl (spotJ_c (jap (l.drop k) (jap (l.take k) v 0).1 0) _ (jap_at0 _ _ 0))) ?_
    refine zv5 ?_
    refine zu2 ?_
    refine zt rfl (zc rfl (rsameP_c (jap l v 0).1 (jap (l.drop k) (jap (l.take k) v 0).1 0).1 _ _ _ (vcells_eq _) (vcells_eq _) hw0.1 hw2.1)) ?_
    rw [pb_t hp1]
    refine zv1 ?_
    refine AWp_join (ι := Unit) (fun b => True) (fun b => ⟨[], [(3, .str path), (9, .bool true), (10, .ptr (σ.length + 0) 0), (14, .str (ba (jtx v)))]⟩) (fun b => σ ++ [.box [.int .i64 v.kind, .bool v.b, .bool v.n.neg, .str v.n.digits, .int .i64 v.n.exp, .str v.s, .sl false 8 (lcells v.l), .sl false 9 (mcells v.m)], .box [.int .i64 (jap l v 0).1.kind, .bool (jap l v 0).1.b, .bool (jap l v 0).1.n.neg, .str (jap l v 0).1.n.digits, .int .i64 (jap l v 0).1.n.exp, .str (jap l v 0).1.s, .sl false 8 (lcells (jap l v 0).1.l), .sl false 9 (mcells (jap l v 0).1.m)], .box [.int .i64 (jap (l.take k) v 0).1.kind, .bool (jap (l.take k) v 0).1.b, .bool (jap (l.take k) v 0).1.n.neg, .str (jap (l.take k) v 0).1.n.digits, .int .i64 (jap (l.take k) v 0).1.n.exp, .str (jap (l.take k) v 0).1.s, .sl false 8 (lcells (jap (l.take k) v 0).1.l), .sl false 9 (mcells (jap (l.take k) v 0).1.m)], .box [.int .i64 (jap (l.drop k) (jap (l.take k) v 0).1 0).1.kind, .bool (jap (l.drop k) (jap (l.take k) v 0).1 0).1.b, .bool (jap (l.drop k) (jap (l.take k) v 0).1 0).1.n.neg, .str (jap (l.drop k) (jap (l.take k) v 0).1 0).1.n.digits, .int .i64 (jap (l.drop k) (jap (l.take k) v 0).1 0).1.n.exp, .str (jap (l.drop k) (jap (l.take k) v 0).1 0).1.s, .sl false 8 (lcells (jap (l.drop k) (jap (l.take k) v 0).1 0).1.l), .sl false 9 (mcells (jap (l.drop k) (jap (l.take k) v 0).1 0).1.m)]]) ?_ (fun b hj => ?_)
    ·skip
     refine zu2 ?_
     refine zt rfl (op_neqF rfl rfl rfl hp2) ?_
     refine zg2 ?_
     refine ztG rfl rfl (op_neErr rfl Tryz.underlying35 rfl) ?_
     refine zg1 ?_
     refine zsp 126 rfl (fun h4 => ?_) fun h4 => ?_
     ·rw [h4]; replace h4 := zcl h4
      have hat := jap_at (l.drop k) (jap (l.take k) v 0).1 0
      rw [List.length_drop] at hat
      refine zg4 ?_
      refine ztG rfl rfl (op_neqF rfl rfl rfl (hp3 (jE_some.1 h4))) ?_
      refine zv6 ?_
      refine AWp_condF rfl ?_
      refine AWp_skip ?_
      exact ⟨(), trivial, ⟨rfl, rfl, rfl, rfl, rfl, trivial⟩, rfl⟩
     ·rw [h4]; replace h4 := zcl h4
      refine zg10 ?_
      refine zg1 ?_
      refine zon ?_
      refine AWp_condF rfl ?_
      refine AWp_skip ?_
      exact ⟨(), trivial, ⟨rfl, rfl, rfl, rfl, rfl, trivial⟩, rfl⟩
    ·skip
     refine zu1 ?_
     refine zt rfl (zc rfl (ptrL_c path _ hp)) ?_
     generalize (ptQ path).1 = nm at hln hll ⊢
     generalize (ptQ path).2 = can
     refine zv5 ?_
     refine zu2 ?_
     refine zt rfl (zc rfl (rget_c nm _ v _ _ hln (vcells_eq v) hjv)) ?_
     rw [vcells_eq (jget nm v).1]
     refine zv6 ?_
     refine AWp_seq ?_
     refine AWp_seq ?_
     refine AWp_heap (σ' := σ ++ [.box [.int .i64 v.kind, .bool v.b, .bool v.n.neg, .str v.n.digits, .int .i64 v.n.exp, .str v.s, .sl false 8 (lcells v.l), .sl false 9 (mcells v.m)], .box [.int .i64 (jap l v 0).1.kind, .bool (jap l v 0).1.b, .bool (jap l v 0).1.n.neg, .str (jap l v 0).1.n.digits, .int .i64 (jap l v 0).1.n.exp, .str (jap l v 0).1.s, .sl false 8 (lcells (jap l v 0).1.l), .sl false 9 (mcells (jap l v 0).1.m)], .box [.int .i64 (jap (l.take k) v 0).1.kind, .bool (jap (l.take k) v 0).1.b, .bool (jap (l.take k) v 0).1.n.neg, .str (jap (l.take k) v 0).1.n.digits, .int .i64 (jap (l.take k) v 0).1.n.exp, .str (jap (l.take k) v 0).1.s, .sl false 8 (lcells (jap (l.take k) v 0).1.l), .sl false 9 (mcells (jap (l.take k) v 0).1.m)], .box [.int .i64 (jap (l.drop k) (jap (l.take k) v 0).1 0).1.kind, .bool (jap (l.drop k) (jap (l.take k) v 0).1 0).1.b, .bool (jap (l.drop k) (jap (l.take k) v 0).1 0).1.n.neg, .str (jap (l.drop k) (jap (l.take k) v 0).1 0).1.n.digits, .int .i64 (jap (l.drop k) (jap (l.take k) v 0).1 0).1.n.exp, .str (jap (l.drop k) (jap (l.take k) v 0).1 0).1.s, .sl false 8 (lcells (jap (l.drop k) (jap (l.take k) v 0).1 0).1.l), .sl false 9 (mcells (jap (l.drop k) (jap (l.take k) v 0).1 0).1.m)], .box [.int .i64 (jget nm v).1.kind, .bool (jget nm v).1.b, .bool (jget nm v).1.n.neg, .str (jget nm v).1.n.digits, .int .i64 (jget nm v).1.n.exp, .str (jget nm v).1.s, .sl false 8 (lcells (jget nm v).1.l), .sl false 9 (mcells (jget nm v).1.m)]]) rfl ?_
     refine AWp_regL ?_
     refine zg3 ?_
     refine zsp 151 rfl (fun h5 => ?_) fun h5 => ?_
     ·rw [h5]; replace h5 := zcl h5
      refine zv2 ?_
      refine AWp_cond rfl (fun h6 => ?_) (fun h6 => ?_)
      ·(try rw [h6]); replace h6 := zcl h6
       have hgx : jget nm v = ((jget nm v).1, true) := Prod.ext rfl h6
       have hs := jap_stay hst hsz hvd hgx
       have hs1 := congrArg Prod.fst hs
       have hs2 : jE (jap [⟨6, nm, [], (jget nm v).1⟩, ⟨4, nm, nm, vz⟩, ⟨3, nm, [], (jget nm v).1⟩] v 0) = none := by rw [hs]; rfl
       simp only at hs1
       refine zsr ?_
       refine zg10 ?_
       refine zt rfl (op_buildSlice [[_, _, _, _, _, _, _, _, _, _, _], [_, _, _, _, _, _, _, _, _, _, _], [_, _, _, _, _, _, _, _, _, _, _]] rfl Tryz.underlying47 Tryz.sizeOf58 Tryz.zeroValue58 rfl (by decide) (by decide) rfl rfl rfl rfl rfl) ?_
       refine zt rfl (zc rfl (papW_c nm (jget nm v).1 v _ _ hll hln (jget_jb nm hjv) (jget_st nm hst) (jget_size nm hsz (by decide)) (vcells_eq v) hjv hst hsz)) ?_
       rw [hs1, hs2, vcells_eq v]
       refine zv6 ?_
       refine AWp_seq ?_
       refine AWp_heap (σ' := σ ++ [.box [.int .i64 v.kind, .bool v.b, .bool v.n.neg, .str v.n.digits, .int .i64 v.n.exp, .str v.s, .sl false 8 (lcells v.l), .sl false 9 (mcells v.m)], .box [.int .i64 (jap l v 0).1.kind, .bool (jap l v 0).1.b, .bool (jap l v 0).1.n.neg, .str (jap l v 0).1.n.digits, .int .i64 (jap l v 0).1.n.exp, .str (jap l v 0).1.s, .sl false 8 (lcells (jap l v 0).1.l), .sl false 9 (mcells (jap l v 0).1.m)], .box [.int .i64 (jap (l.take k) v 0).1.kind, .bool (jap (l.take k) v 0).1.b, .bool (jap (l.take k) v 0).1.n.neg, .str (jap (l.take k) v 0).1.n.digits, .int .i64 (jap (l.take k) v 0).1.n.exp, .str (jap (l.take k) v 0).1.s, .sl false 8 (lcells (jap (l.take k) v 0).1.l), .sl false 9 (mcells (jap (l.take k) v 0).1.m)], .box [.int .i64 (jap (l.drop k) (jap (l.take k) v 0).1 0).1.kind, .bool (jap (l.drop k) (jap (l.take k) v 0).1 0).1.b, .bool (jap (l.drop k) (jap (l.take k) v 0).1 0).1.n.neg, .str (jap (l.drop k) (jap (l.take k) v 0).1 0).1.n.digits, .int .i64 (jap (l.drop k) (jap (l.take k) v 0).1 0).1.n.exp, .str (jap (l.drop k) (jap (l.take k) v 0).1 0).1.s, .sl false 8 (lcells (jap (l.drop k) (jap (l.take k) v 0).1 0).1.l), .sl false 9 (mcells (jap (l.drop k) (jap (l.take k) v 0).1 0).1.m)], .box [.int .i64 (jget nm v).1.kind, .bool (jget nm v).1.b, .bool (jget nm v).1.n.neg, .str (jget nm v).1.n.digits, .int .i64 (jget nm v).1.n.exp, .str (jget nm v).1.s, .sl false 8 (lcells (jget nm v).1.l), .sl false 9 (mcells (jget nm v).1.m)], .box [.int .i64 v.kind, .bool v.b, .bool v.n.neg, .str v.n.digits, .int .i64 v.n.exp, .str v.s, .sl false 8 (lcells v.l), .sl false 9 (mcells v.m)]]) rfl ?_
       refine AWp_regL ?_
       refine zg2 ?_
       refine zt rfl (zc rfl (rsameQ_c v _ _ (vcells_eq v) hjv)) ?_
       refine zv1 ?_
       refine zw6 ?_
       refine AWp_condF rfl ?_
       refine AWp_skip ?_
       refine zu3 ?_
       refine ztG rfl rfl (zc rfl (vcells_eq v ▸ rsh_any 2002 v _ hsv hjv hkb (by omega))) ?_
       refine zg1 ?_
       refine ztG rfl rfl (op_seqT rfl rfl rfl rfl) ?_
       refine zv2 ?_
       refine zrt ?_
       exact ResQ_1 rfl hcl (by simp [AV.lt, AV.ltL]) ⟨rfl, rfl⟩
      ·(try rw [h6]); replace h6 := zcl h6
       refine AWp_skip ?_
       refine zu3 ?_
       refine ztG rfl rfl (zc rfl (vcells_eq v ▸ rsh_any 2002 v _ hsv hjv hkb (by omega))) ?_
       refine zg1 ?_
       refine ztG rfl rfl (op_seqT rfl rfl rfl rfl) ?_
       refine zv2 ?_
       refine zrt ?_
       exact ResQ_1 rfl hcl (by simp [AV.lt, AV.ltL]) ⟨rfl, rfl⟩
     ·rw [h5]; replace h5 := zcl h5
      refine zv2 ?_
      refine AWp_condF rfl ?_
      refine AWp_skip ?_
      refine zu3 ?_
      refine ztG rfl rfl (zc rfl (vcells_eq v ▸ rsh_any 2002 v _ hsv hjv hkb (by omega))) ?_
      refine zg1 ?_
      refine ztG rfl rfl (op_seqT rfl rfl rfl rfl) ?_
      refine zv2 ?_
      refine zrt ?_
      exact ResQ_1 rfl hcl (by simp [AV.lt, AV.ltL]) ⟨rfl, rfl⟩
end Lg
set_option maxRecDepth 100000
set_option maxHeartbeats 4000000
namespace Go.Proofs.YtdacoelmmaiffaaGreatDoor
open Go Go.ChangeShapes Go.WideShapes Go.ChangeAt Go.RowKit Go.Lib
open Go.ChangeMaps (open_string shut_string)
noncomputable def applyParts_w0 (os : Os) : World :=
  let w0 := World.holding Tryz.prog os ⟨#[], #[], []⟩
  { w0 with heap := w0.heap.modify 0 fun
      | .cells _ t frozen => .cells #[.iface 152 (.agg #[.pointer (some ⟨9, 35, none⟩)])] t frozen
      | o => o }
noncomputable def applyParts_ln : List (String × DataW Unit) := Rows.applyPartsRow.laid.filter fun x => x.2.handleName?.isNone
noncomputable def applyParts_lw (os : Os) : World := (applyParts_w0 os).layVars Tryz.prog applyParts_ln
theorem applyParts_lw_os (os : Os) : (applyParts_lw os).os = os := by unfold applyParts_lw; rw [World.layVars_os]; rfl
theorem applyParts_mh (os : Os) (args : Array Value) : laidMetH Tryz.prog Rows.applyPartsRow.laid ((applyParts_lw os).forCall (fun _ _ => 0) ⟨#[], args, []⟩).memory := by
  have e1 : (applyParts_ln.filter fun x => (applyParts_ln.map (·.1)).contains x.1) = applyParts_ln := List.filter_eq_self.2 fun x hx => List.contains_iff_mem.2 (List.mem_map.2 ⟨x, hx, rfl⟩)
  have e2 : (applyParts_ln.filter fun x => !(applyParts_ln.map (·.1)).contains x.1) = [] := List.filter_eq_nil_iff.2 fun x hx => by rw [List.contains_iff_mem.2 (List.mem_map.2 ⟨x, hx, rfl⟩)]; simp
  have h : laidMet Tryz.prog applyParts_ln (applyParts_lw os) := laidMet_layVars (w0 := applyParts_w0 os) (applyParts_ln.map (·.1)) [] (by rw [e1]; rfl) (by rw [e1]; kernel_rfl) (by rw [e1]; kernel_rfl) (by rw [e2]; exact LaidIn.none)
  refine laidMetH_of_parts (h.of_heap (by simp [World.memory, World.forCall, Input.heap])) (by kernel_rfl)
theorem applyParts_rt : (Tryz.prog.cutTypes.find? (·.1 == "internal/reflectlite.rtype")).map (·.2) = some 152 := by kernel_rfl
theorem applyParts_one : ((List.range 286).filter fun t => Tryz.prog.rowNamed t [101, 114, 114, 111, 114]) = [35] := by kernel_rfl
theorem applyParts_nt : Tryz.prog.types.size = 286 := by kernel_rfl
theorem applyParts_gn : Tryz.prog.globalNamed "errors.errorType" = some 0 := by kernel_rfl
theorem applyParts_et {W : World} (h : laidMetH Tryz.prog Rows.applyPartsRow.laid W) : W.cell? ⟨0, 0, none⟩ = some (.iface 152 (.agg #[.pointer (some ⟨9, 35, none⟩)])) := by
  have h' : laidMet Tryz.prog (Rows.applyPartsRow.laid.filter fun x => x.2.handleName?.isNone) W ∧ handlesMet Tryz.prog (Rows.applyPartsRow.laid.filter fun x => x.2.handleName?.isSome) W := h
  obtain ⟨name, u, ty, e1, e2, e3, e4, e5⟩ := h'.2 ("errors.errorType", Rows.laid_errors_errorType) (List.mem_filter.2 ⟨by simp [Rows.applyPartsRow], rfl⟩)
  have en : name = [101, 114, 114, 111, 114] := (Option.some.inj e1).symm
  subst en
  obtain rfl := Option.some.inj (applyParts_rt.symm.trans e2)
  have hm : ty ∈ (List.range 286).filter fun t => Tryz.prog.rowNamed t [101, 114, 114, 111, 114] := List.mem_filter.2 ⟨List.mem_range.2 (by rw [← applyParts_nt]; exact e3), e4⟩
  rw [applyParts_one] at hm
  obtain rfl := List.mem_singleton.1 hm
  have hh : typeHandle Tryz.prog 35 = .pointer (some ⟨9, 35, none⟩) := by kernel_rfl
  rw [hh] at e5
  simpa using World.var?_cell applyParts_gn e5 0
theorem applyParts_lifted (os : Os) (started : os.Started) (H : Type) (enc : TypeId × Value → H) :
    ReturnsInHanded {} Tryz.checked os 6 .any (fun w args => (Rows.applyPartsSpec.pre enc Tryz.prog Tryz.f6 [] false w args ∧ laidMetH Tryz.prog Rows.applyPartsRow.laid w) ∧ sizedMet enc Tryz.prog Tryz.f6 (OpenSpec.ofChange Rows.applyPartsSpec) false w args)
      (Rows.applyPartsSpec.post enc Tryz.prog Tryz.f6 false true false false) := by
  refine returnsInHanded_of_change_and (C := Tryz.checked) (X := fun w _ => laidMetH Tryz.prog Rows.applyPartsRow.laid w) (fun _ _ _ hh h => h.of_heap hh) own started (by kernel_rfl) Tryz.func6
    (ChangeSpec.witness_shaped (enc := enc) (C := Tryz.checked) (os := os) (X := fun w _ => laidMetH Tryz.prog Rows.applyPartsRow.laid w) false (applyParts_lw os) #[.string ⟨#[]⟩, .string ⟨#[]⟩, .int .i64 0, .string ⟨#[]⟩] 8 (applyParts_lw_os os)
      (World.shaped_of_ZipB (by kernel_rfl) (by kernel_rfl)) (by kernel_rfl) (by kernel_rfl) (by kernel_rfl) (applyParts_mh os _)) ?_
  intro W base args ds gs before hval0 hW hz0 hz hL _
  have hval : ∀ (j : Nat) t v, Tryz.f6.params[j]? = some t → args[j]? = some v → Value.okWide Tryz.prog W .any base t v := hval0
  have hW' := hW
  obtain ⟨p, q, hA0, hV, rfl, hfz, hnd⟩ := hW
  have hA : DataW.TrodAll enc Tryz.prog W 0 (fun _ => true) true Tryz.f6.params.toList args.toList ds p := hA0
  rw [Tryz.params6] at hA hval hz
  obtain ⟨v0, vs0, d0, ds0, p0, q0, hargs, rfl, rfl, h0, r0⟩ := trodAll_cons hA
  obtain ⟨v1, vs1, d1, ds1, p1, q1, rfl, rfl, rfl, h1, r1⟩ := trodAll_cons r0
  obtain ⟨v2, vs2, d2, ds2, p2, q2, rfl, rfl, rfl, h2, r2⟩ := trodAll_cons r1
  obtain ⟨v3, vs3, d3, ds3, p3, q3, rfl, rfl, rfl, h3, r3⟩ := trodAll_cons r2
  obtain ⟨rfl, rfl, rfl⟩ := trodAll_nil r3
  obtain rfl : args = #[v0, v1, v2, v3] := by cases args; simp_all
  obtain ⟨rfl, rfl⟩ := trodVars_none hV
  obtain ⟨x0, rfl, rfl, rfl, w0⟩ := open_string Tryz.underlying9 (hval 0 9 v0 rfl rfl) h0
  obtain ⟨x1, rfl, rfl, rfl, w1⟩ := open_string Tryz.underlying9 (hval 1 9 v1 rfl rfl) h1
  obtain ⟨x2, rfl, rfl, rfl, w2⟩ := open_int Tryz.underlying3 (hval 2 3 v2 rfl rfl) h2
  obtain ⟨x3, rfl, rfl, rfl, w3⟩ := open_string Tryz.underlying9 (hval 3 9 v3 rfl rfl) h3
  clear hA0 hval0
  simp only [List.append_nil] at hW'
  have b3 : x3.size ≤ 140737488355328 := by
    have := List.all_eq_true.1 hz x3.data.toList.length (by simp [DataW.weightsEach, DataW.weights])
    have e : x3.data.toList.length = x3.size := Array.length_toList ..
    rw [e] at this; have := of_decide_eq_true this; unfold reachBytes at this; omega
  have hcall := Lg.calls_of (P := Tryz.prog) (f := 6) (args := [.str x0, .str x1, .int .i64 x2, .str x3]) (cargs := [.string x0, .string x1, .int .i64 x2, .string x3]) (W := W)
    (fun st => (.cons (.str _) (.cons (.str _) (.cons (.int _ _) (.cons (.str _) .nil)))))
    (fun hg => by haveI := Lg.ET.of (applyParts_et hL) hg; exact Lg.applyParts_c x0 x1 x2 x3 [] b3)
  refine hcall.mono fun e W' ⟨he, hg⟩ => ?_
  subst he
  refine ⟨_, rfl, _, _, _, [], [], [], hW', trodAll_mk1 (shut_bool Tryz.underlying4 _), ?_, rfl, hg.frame _, fun h => by cases h⟩
  exact (trodAll_cons_mk (shut_string Tryz.underlying9 w0) (trodAll_cons_mk (shut_string Tryz.underlying9 w1) (trodAll_cons_mk (shut_int Tryz.underlying3 w2) (trodAll_cons_mk (shut_string Tryz.underlying9 w3) trodAll_mk0))))
theorem applyParts_holds : Rows.ApplyPartsSaid :=
  OpenClaim.holds_of_wide 6 Tryz.f6 rfl rfl rfl rfl rfl rfl rfl ⟨rfl, rfl, rfl, rfl, rfl⟩ rfl rfl rfl rfl rfl (by kernel_rfl) Tryz.func6 (by kernel_rfl)
    (of_decide_eq_true (by kernel_rfl)) (by unfold Func.isWrapper; first | (rw [if_pos (by decide +kernel)]; kernel_rfl) | (rw [if_neg (by decide +kernel)]; exact ⟨rfl, rfl⟩))
    (fun os started H enc _ => applyParts_lifted os started H enc)
end Go.Proofs.YtdacoelmmaiffaaGreatDoor
