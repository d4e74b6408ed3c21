/- A part of the proof of A value passes the const and the one-element enum of itself; numbers pass minimum, maximum, const as they stand to each other; a doubled list is not unique.: N6 Ln9 Lr4 Lr5 Lg45 Lg46 Lo1 Lr6 Lk9 Lt1 Lt2 Lt3 Lo2 Lo3 Ln10 Ln11 Ln12 Le1 Lr7 Sh6 N7 N8 Sh4 N10 Lk8 Le2 Le3 Le4 Lg47 Lg48 Lg49 Lg53 Le5 Le6 Lr8 Le7 Le8 Le9 Le10 Le11 Le12 Le13 Le14 Lj1 Lj2 Lg57 Lc1 Lc2 Lc3 Lg50. -/
import Derived.Test.YtpcjccmmeaaeaaaGreatDoorD6
import Derived.Test.YtpcjccmmeaaeaaaGreatDoorD5
import Derived.Test.YtpcjccmmeaaeaaaGreatDoorD4
import Derived.Test.YtpcjccmmeaaeaaaGreatDoorD3
import Derived.Lib.Atoi
import Derived.Lib.SlTrimSet
import Derived.Shelf.Strings.SlTrimAscii
import Derived.Shelf.Strconv.Atoi
import Derived.Test.YtpcjccmmeaaeaaaGreatDoorProg
import Derived.Shelf.Strconv.Itoa3
import Derived.Laws.CopyRow
import Derived.Lib.Overlaps
set_option linter.unusedVariables false
set_option linter.unusedSimpArgs false
set_option linter.unusedSectionVars false
set_option maxRecDepth 20000
set_option maxHeartbeats 4000000
namespace Lg
open Go Go.Proofs Go.RowKit
variable [GLay] 
theorem parts_c (l : BL) (σ : List AO) (hl : l.length ≤ 1000000) : ACalls Tryz.prog 176 [.str (ba l)] σ (Ret (.tup [.str (ba (pParts l).1), .str (ba (pParts l).2.1), .str (ba (pParts l).2.2.1), .bool (pParts l).2.2.2]) σ) := by
 refine ACalls_body Tryz.func176 rfl Tryz.ntmps176 (res4 Tryz.results176) (Nat.le_of_ble_eq_true rfl) (fun hcl hal => ?_)
 have hbs : (ba l).size = l.length := ba_size l
 have htl := (List.takeWhile_sublist (l := l) isD).length_le
 have htk := tw_take l
 have hdd := dropWhile_drop l
 refine zw4 ?_
 refine zu1 ?_
 refine zt rfl (zc rfl (pdig_c l _ hl)) ?_
 refine zv1 ?_
 refine AWp_join (ι := Unit) (fun b => ¬ ((l.takeWhile isD).length = 0 ∨ (1 < (l.takeWhile isD).length ∧ l.headD 0 = 48))) (fun b => ⟨[], [(0, .str (ba l)), (6, .int .i64 ((l.takeWhile isD).length : Int))]⟩) (fun b => σ) ?_ (fun b hj => ?_)
 ·skip
  refine zu3 ?_
  refine zsp 17 rfl (fun h1 => ?_) fun h1 => ?_
  ·rw [h1]; (try simp only [decide_eq_true_eq, decide_eq_false_iff_not, Bool.not_eq_true', Bool.not_eq_false', Int.not_lt, Int.not_le, Bool.not_true, Bool.not_false, Int.toNat_natCast, Int.toNat_zero, bne_iff_ne, beq_iff_eq, beq_eq_false_iff_ne, ne_eq, Decidable.not_not] at h1)
   refine zv8 ?_
   refine AWp_condT rfl ?_
   refine zw4 ?_
   refine zrt ?_
   refine ResQ_40 rfl rfl rfl rfl hcl (by simp [AV.lt, AV.ltL]) (Ret_of ?_)
   rw [pParts_no (.inl (by omega))]; rfl
  ·rw [h1]; (try simp only [decide_eq_true_eq, decide_eq_false_iff_not, Bool.not_eq_true', Bool.not_eq_false', Int.not_lt, Int.not_le, Bool.not_true, Bool.not_false, Int.toNat_natCast, Int.toNat_zero, bne_iff_ne, beq_iff_eq, beq_eq_false_iff_ne, ne_eq, Decidable.not_not] at h1)
   refine zg3 ?_
   refine zsp 20 rfl (fun h2 => ?_) fun h2 => ?_
   ·rw [h2]; (try simp only [decide_eq_true_eq, decide_eq_false_iff_not, Bool.not_eq_true', Bool.not_eq_false', Int.not_lt, Int.not_le, Bool.not_true, Bool.not_false, Int.toNat_natCast, Int.toNat_zero, bne_iff_ne, beq_iff_eq, beq_eq_false_iff_ne, ne_eq, Decidable.not_not] at h2)
    refine zg2 ?_
    simp only [Int.toNat_zero]
    refine zv3 ?_
    refine AWp_cond rfl (fun h3 => ?_) (fun h3 => ?_)
    ·(try rw [h3]); (try simp only [decide_eq_true_eq, decide_eq_false_iff_not, Bool.not_eq_true', Bool.not_eq_false', Int.not_lt, Int.not_le, Bool.not_true, Bool.not_false, Int.toNat_natCast, Int.toNat_zero, bne_iff_ne, beq_iff_eq, beq_eq_false_iff_ne, ne_eq, Decidable.not_not] at h3)
     refine zw4 ?_
     refine zrt ?_
     refine ResQ_40 rfl rfl rfl rfl hcl (by simp [AV.lt, AV.ltL]) (Ret_of ?_)
     rw [pParts_no (.inr ⟨by omega, (by rw [show l.headD 0 = bat (ba l) 0 by rw [bat_ba]; cases l <;> rfl]; exact UInt8.toNat_inj.1 (show _ = 48 by omega))⟩)]; rfl
    ·(try rw [h3]); (try simp only [decide_eq_true_eq, decide_eq_false_iff_not, Bool.not_eq_true', Bool.not_eq_false', Int.not_lt, Int.not_le, Bool.not_true, Bool.not_false, Int.toNat_natCast, Int.toNat_zero, bne_iff_ne, beq_iff_eq, beq_eq_false_iff_ne, ne_eq, Decidable.not_not] at h3)
     refine AWp_skip ?_
     refine ⟨(), ?_, ⟨rfl, rfl, rfl, trivial⟩, rfl⟩
     rintro (h | ⟨h, hh⟩)
     ·omega
     ·rw [show l.headD 0 = bat (ba l) 0 by rw [bat_ba]; cases l <;> rfl] at hh
      rw [hh] at h3; exact h3 rfl
   ·rw [h2]; (try simp only [decide_eq_true_eq, decide_eq_false_iff_not, Bool.not_eq_true', Bool.not_eq_false', Int.not_lt, Int.not_le, Bool.not_true, Bool.not_false, Int.toNat_natCast, Int.toNat_zero, bne_iff_ne, beq_iff_eq, beq_eq_false_iff_ne, ne_eq, Decidable.not_not] at h2)
    refine zv5 ?_
    refine AWp_condF rfl ?_
    refine AWp_skip ?_
    refine ⟨(), ?_, ⟨rfl, rfl, rfl, trivial⟩, rfl⟩
    rintro (h | ⟨h, hh⟩) <;> omega
 ·skip
  have hj0 := hj
  refine AWp_seq ?_
  refine AWp_drawL #[0, 0, 3, 0, 0, 24, 7, 127] Tryz.mixed (by decide +kernel) (by decide +kernel) ?_
  refine zd3 ?_
  simp only [Int.toNat_zero, Int.toNat_natCast, ba_pre, htk]
  refine zd3 ?_
  simp only [Int.toNat_natCast, ba_suf, ← hdd]
  refine zd2 ?_
  refine RP.nil rfl ?_
  refine zw1 ?_
  refine AWp_join (ι := BL × BL) (fun z => pFrac (l.dropWhile isD) = some z) (fun z => ⟨[], [(7, .str (ba (l.takeWhile isD))), (8, .str (ba z.2)), (9, .str (ba z.1))]⟩) (fun z => σ) ?_ (fun z hj => ?_)
  ·skip
   refine zu1 ?_
   refine zt rfl (zc rfl (tHasPre_c _ _ _ (by have := (List.dropWhile_suffix (l := l) isD).length_le; omega))) ?_
   refine zon ?_
   refine AWp_cond rfl (fun h4 => ?_) (fun h4 => ?_)
   ·(try rw [h4]); (try simp only [decide_eq_true_eq, decide_eq_false_iff_not, Bool.not_eq_true', Bool.not_eq_false', Int.not_lt, Int.not_le, Bool.not_true, Bool.not_false, Int.toNat_natCast, Int.toNat_zero, bne_iff_ne, beq_iff_eq, beq_eq_false_iff_ne, ne_eq, Decidable.not_not] at h4)
    obtain ⟨b, q, hR, hb⟩ := hdC_true h4
    rw [hR] at hdd ⊢
    have hlq : q.length + 1 ≤ l.length := by have := (List.dropWhile_suffix (l := l) isD).length_le; rw [hR] at this; simpa using this
    have hbq : (ba (b :: q)).size = q.length + 1 := by rw [ba_size]; rfl
    have htq := (List.takeWhile_sublist (l := q) isD).length_le
    refine zu2 ?_
    simp only [Int.toNat_natCast, show (1 : Int).toNat = 1 from rfl, ba_suf1]
    refine zt rfl (zc rfl (pdig_c q _ (by omega))) ?_
    refine zv1 ?_
    refine AWp_seq ?_
    refine zw2 ?_
    refine AWp_cond rfl (fun h5 => ?_) (fun h5 => ?_)
    ·(try rw [h5]); (try simp only [decide_eq_true_eq, decide_eq_false_iff_not, Bool.not_eq_true', Bool.not_eq_false', Int.not_lt, Int.not_le, Bool.not_true, Bool.not_false, Int.toNat_natCast, Int.toNat_zero, bne_iff_ne, beq_iff_eq, beq_eq_false_iff_ne, ne_eq, Decidable.not_not] at h5)
     refine zw4 ?_
     refine zrt ?_
     refine ResQ_40 rfl rfl rfl rfl hcl (by simp [AV.lt, AV.ltL]) (Ret_of ?_)
     rw [pParts_none hj (by rw [hR]; exact pFrac_bad hb (by omega))]; rfl
    ·(try rw [h5]); (try simp only [decide_eq_true_eq, decide_eq_false_iff_not, Bool.not_eq_true', Bool.not_eq_false', Int.not_lt, Int.not_le, Bool.not_true, Bool.not_false, Int.toNat_natCast, Int.toNat_zero, bne_iff_ne, beq_iff_eq, beq_eq_false_iff_ne, ne_eq, Decidable.not_not] at h5)
     refine AWp_skip ?_
     refine AWp_drawL #[0, 0, 2, 7, 0, 0, 32, 112, 15, 511] Tryz.mixed (by decide +kernel) (by decide +kernel) ?_
     refine zd4 ?_
     have e10 : ((1 : Int) + ((q.takeWhile isD).length : Int)).toNat = 1 + (q.takeWhile isD).length := by omega
     simp only [e10, show (1 : Int).toNat = 1 from rfl, ba_ex]
     rw [show (List.take (1 + (q.takeWhile isD).length) (b :: q)).drop 1 = q.takeWhile isD by rw [Nat.add_comm, List.take_succ_cons]; exact tw_take q]
     refine zd4 ?_
     simp only [e10, Int.toNat_natCast, ba_suf]
     rw [show (b :: q).drop (1 + (q.takeWhile isD).length) = q.dropWhile isD by rw [Nat.add_comm, List.drop_succ_cons]; exact (dropWhile_drop q).symm]
     refine zd2 ?_
     refine RP.nil rfl ?_
     refine ⟨(q.takeWhile isD, q.dropWhile isD), pFrac_dot hb (by omega), ⟨rfl, rfl, rfl, rfl, trivial⟩, rfl⟩
   ·(try rw [h4]); (try simp only [decide_eq_true_eq, decide_eq_false_iff_not, Bool.not_eq_true', Bool.not_eq_false', Int.not_lt, Int.not_le, Bool.not_true, Bool.not_false, Int.toNat_natCast, Int.toNat_zero, bne_iff_ne, beq_iff_eq, beq_eq_false_iff_ne, ne_eq, Decidable.not_not] at h4)
    refine AWp_skip ?_
    exact ⟨([], (l.dropWhile isD)), pFrac_not h4, ⟨rfl, rfl, rfl, rfl, trivial⟩, rfl⟩
  ·skip
   obtain ⟨f, r⟩ := z
   simp only at hj ⊢
   have hjp := hj
   refine AWp_seq ?_
   refine zw2 ?_
   refine AWp_cond rfl (fun h6 => ?_) (fun h6 => ?_)
   ·(try rw [h6]); (try simp only [decide_eq_true_eq, decide_eq_false_iff_not, Bool.not_eq_true', Bool.not_eq_false', Int.not_lt, Int.not_le, Bool.not_true, Bool.not_false, Int.toNat_natCast, Int.toNat_zero, bne_iff_ne, beq_iff_eq, beq_eq_false_iff_ne, ne_eq, Decidable.not_not] at h6)
    have hr0 : r = [] := ba_inj.1 h6
    subst hr0
    refine zw6 ?_
    refine zrt ?_
    refine ResQ_40 rfl rfl rfl rfl hcl (by simp [AV.lt, AV.ltL]) (Ret_of ?_)
    rw [pParts_some hj0 hj]; rfl
   ·(try rw [h6]); (try simp only [decide_eq_true_eq, decide_eq_false_iff_not, Bool.not_eq_true', Bool.not_eq_false', Int.not_lt, Int.not_le, Bool.not_true, Bool.not_false, Int.toNat_natCast, Int.toNat_zero, bne_iff_ne, beq_iff_eq, beq_eq_false_iff_ne, ne_eq, Decidable.not_not] at h6)
    obtain ⟨b, q, rfl⟩ : ∃ b q, r = b :: q := by cases r with | nil => exact absurd rfl h6 | cons b q => exact ⟨b, q, rfl⟩
    have hlq : q.length + 1 ≤ l.length := by have := pFrac_len hj; have := (List.dropWhile_suffix (l := l) isD).length_le; simp only [List.length_cons] at *; omega
    have hs1 := strip_len 43 q
    have hs2 := strip_len 45 (strip 43 q)
    have hbq : (ba (b :: q)).size = q.length + 1 := by rw [ba_size]; rfl
    refine AWp_skip ?_
    refine zu2 ?_
    simp only [Int.toNat_natCast, show (1 : Int).toNat = 1 from rfl, ba_suf1]
    refine zv1 ?_
    refine AWp_join (ι := Unit) (fun w => True) (fun w => ⟨[], [(7, .str (ba (l.takeWhile isD))), (8, .str (ba (b :: q))), (9, .str (ba f)), (10, .str (ba (strip 43 q)))]⟩) (fun w => σ) ?_ (fun w hj => ?_)
    ·skip
     refine zu1 ?_
     refine zt rfl (zc rfl (tHasPre_c q 43 _ (by omega))) ?_
     refine zon ?_
     refine AWp_cond rfl (fun h7 => ?_) (fun h7 => ?_)
     ·(try rw [h7]); (try simp only [decide_eq_true_eq, decide_eq_false_iff_not, Bool.not_eq_true', Bool.not_eq_false', Int.not_lt, Int.not_le, Bool.not_true, Bool.not_false, Int.toNat_natCast, Int.toNat_zero, bne_iff_ne, beq_iff_eq, beq_eq_false_iff_ne, ne_eq, Decidable.not_not] at h7)
      obtain ⟨c43, q2, hq2, hb43⟩ := hdC_true h7
      have hst : strip 43 q = q2 := by rw [hq2]; exact strip_eq hb43
      have hbq2 : (ba q).size = q2.length + 1 := by rw [ba_size, hq2]; rfl
      rw [hst, hq2] at *
      refine AWp_regL ?_
      refine zg2 ?_
      simp only [Int.toNat_natCast, show (1 : Int).toNat = 1 from rfl, ba_suf1]
      refine zv1 ?_
      exact ⟨(), trivial, ⟨rfl, rfl, rfl, rfl, rfl, trivial⟩, rfl⟩
     ·(try rw [h7]); (try simp only [decide_eq_true_eq, decide_eq_false_iff_not, Bool.not_eq_true', Bool.not_eq_false', Int.not_lt, Int.not_le, Bool.not_true, Bool.not_false, Int.toNat_natCast, Int.toNat_zero, bne_iff_ne, beq_iff_eq, beq_eq_false_iff_ne, ne_eq, Decidable.not_not] at h7)
      refine AWp_skip ?_
      have hst := hdC_strip h7
      refine ⟨(), trivial, ⟨rfl, rfl, rfl, rfl, ?_, trivial⟩, rfl⟩
      rw [show strip 43 q = q from hst]; rfl
    ·skip
     refine zu1 ?_
     refine zt rfl (zc rfl (tTrimPre_c (strip 43 q) 45 _ (by omega))) ?_
     refine zv1 ?_
     refine AWp_join (ι := Unit) (fun w => True) (fun w => ⟨[], [(7, .str (ba (l.takeWhile isD))), (9, .str (ba f)), (10, .str (ba (strip 43 q))), (12, .bool (pExp (b :: q)).2)]⟩) (fun w => σ) ?_ (fun w hj => ?_)
     ·skip
      refine AWp_regL ?_
      refine zg2 ?_
      simp only [Int.toNat_zero, bat0]
      refine zg2 ?_
      refine zsp 62 rfl (fun h8 => ?_) fun h8 => ?_
      ·rw [h8]; (try simp only [decide_eq_true_eq, decide_eq_false_iff_not, Bool.not_eq_true', Bool.not_eq_false', Int.not_lt, Int.not_le, Bool.not_true, Bool.not_false, Int.toNat_natCast, Int.toNat_zero, bne_iff_ne, beq_iff_eq, beq_eq_false_iff_ne, ne_eq, Decidable.not_not] at h8)
       refine zg9 ?_
       refine zsp 71 rfl (fun h9 => ?_) fun h9 => ?_
       ·rw [h9]; (try simp only [decide_eq_true_eq, decide_eq_false_iff_not, Bool.not_eq_true', Bool.not_eq_false', Int.not_lt, Int.not_le, Bool.not_true, Bool.not_false, Int.toNat_natCast, Int.toNat_zero, bne_iff_ne, beq_iff_eq, beq_eq_false_iff_ne, ne_eq, Decidable.not_not] at h9)
        refine zg1 ?_
        refine ztG rfl rfl (zc rfl (pdig_c (strip 45 (strip 43 q)) _ (by omega))) ?_
        refine zg5 ?_
        refine zsp 78 rfl (fun h10 => ?_) fun h10 => ?_
        ·rw [h10]; (try simp only [decide_eq_true_eq, decide_eq_false_iff_not, Bool.not_eq_true', Bool.not_eq_false', Int.not_lt, Int.not_le, Bool.not_true, Bool.not_false, Int.toNat_natCast, Int.toNat_zero, bne_iff_ne, beq_iff_eq, beq_eq_false_iff_ne, ne_eq, Decidable.not_not] at h10)
         refine zg2 ?_
         simp only [Int.toNat_natCast, show (1 : Int).toNat = 1 from rfl, ba_suf1]
         refine ztG rfl rfl (zc rfl (tHasPre_c q 43 _ (by omega))) ?_
         refine zg1 ?_
         refine zsp 82 rfl (fun h11 => ?_) fun h11 => ?_
         ·rw [h11]; (try simp only [decide_eq_true_eq, decide_eq_false_iff_not, Bool.not_eq_true', Bool.not_eq_false', Int.not_lt, Int.not_le, Bool.not_true, Bool.not_false, Int.toNat_natCast, Int.toNat_zero, bne_iff_ne, beq_iff_eq, beq_eq_false_iff_ne, ne_eq, Decidable.not_not] at h11)
          refine zv7 ?_
          refine ⟨(), trivial, ⟨rfl, rfl, rfl, rfl, ?_, trivial⟩, rfl⟩
          rw [pExp3]
          refine congrArg AV.bool ?_
          clear hj hj0 hjp hdd htk htl
          simp_all [ba_inj, ba_nil]
         ·rw [h11]; (try simp only [decide_eq_true_eq, decide_eq_false_iff_not, Bool.not_eq_true', Bool.not_eq_false', Int.not_lt, Int.not_le, Bool.not_true, Bool.not_false, Int.toNat_natCast, Int.toNat_zero, bne_iff_ne, beq_iff_eq, beq_eq_false_iff_ne, ne_eq, Decidable.not_not] at h11)
          refine zv7 ?_
          refine ⟨(), trivial, ⟨rfl, rfl, rfl, rfl, ?_, trivial⟩, rfl⟩
          rw [pExp3]
          refine congrArg AV.bool ?_
          clear hj hj0 hjp hdd htk htl
          simp_all [ba_inj, ba_nil]
        ·rw [h10]; (try simp only [decide_eq_true_eq, decide_eq_false_iff_not, Bool.not_eq_true', Bool.not_eq_false', Int.not_lt, Int.not_le, Bool.not_true, Bool.not_false, Int.toNat_natCast, Int.toNat_zero, bne_iff_ne, beq_iff_eq, beq_eq_false_iff_ne, ne_eq, Decidable.not_not] at h10)
         refine zg10 ?_
         refine zg1 ?_
         refine zon ?_
         refine ⟨(), trivial, ⟨rfl, rfl, rfl, rfl, ?_, trivial⟩, rfl⟩
         rw [pExp3]
         refine congrArg AV.bool ?_
         clear hj hj0 hjp hdd htk htl
         simp_all [ba_inj, ba_nil]
       ·rw [h9]; (try simp only [decide_eq_true_eq, decide_eq_false_iff_not, Bool.not_eq_true', Bool.not_eq_false', Int.not_lt, Int.not_le, Bool.not_true, Bool.not_false, Int.toNat_natCast, Int.toNat_zero, bne_iff_ne, beq_iff_eq, beq_eq_false_iff_ne, ne_eq, Decidable.not_not] at h9)
        refine zg10 ?_
        refine zg8 ?_
        refine zon ?_
        refine ⟨(), trivial, ⟨rfl, rfl, rfl, rfl, ?_, trivial⟩, rfl⟩
        rw [pExp3]
        refine congrArg AV.bool ?_
        clear hj hj0 hjp hdd htk htl
        simp_all [ba_inj, ba_nil]
      ·rw [h8]; (try simp only [decide_eq_true_eq, decide_eq_false_iff_not, Bool.not_eq_true', Bool.not_eq_false', Int.not_lt, Int.not_le, Bool.not_true, Bool.not_false, Int.toNat_natCast, Int.toNat_zero, bne_iff_ne, beq_iff_eq, beq_eq_false_iff_ne, ne_eq, Decidable.not_not] at h8)
       refine zg2 ?_
       simp only [Int.toNat_zero, bat0]
       refine zg3 ?_
       refine zsp 67 rfl (fun h12 => ?_) fun h12 => ?_
       ·rw [h12]; (try simp only [decide_eq_true_eq, decide_eq_false_iff_not, Bool.not_eq_true', Bool.not_eq_false', Int.not_lt, Int.not_le, Bool.not_true, Bool.not_false, Int.toNat_natCast, Int.toNat_zero, bne_iff_ne, beq_iff_eq, beq_eq_false_iff_ne, ne_eq, Decidable.not_not] at h12)
        refine zg4 ?_
        refine zsp 71 rfl (fun h13 => ?_) fun h13 => ?_
        ·rw [h13]; (try simp only [decide_eq_true_eq, decide_eq_false_iff_not, Bool.not_eq_true', Bool.not_eq_false', Int.not_lt, Int.not_le, Bool.not_true, Bool.not_false, Int.toNat_natCast, Int.toNat_zero, bne_iff_ne, beq_iff_eq, beq_eq_false_iff_ne, ne_eq, Decidable.not_not] at h13)
         refine zg1 ?_
         refine ztG rfl rfl (zc rfl (pdig_c (strip 45 (strip 43 q)) _ (by omega))) ?_
         refine zg5 ?_
         refine zsp 78 rfl (fun h14 => ?_) fun h14 => ?_
         ·rw [h14]; (try simp only [decide_eq_true_eq, decide_eq_false_iff_not, Bool.not_eq_true', Bool.not_eq_false', Int.not_lt, Int.not_le, Bool.not_true, Bool.not_false, Int.toNat_natCast, Int.toNat_zero, bne_iff_ne, beq_iff_eq, beq_eq_false_iff_ne, ne_eq, Decidable.not_not] at h14)
          refine zg2 ?_
          simp only [Int.toNat_natCast, show (1 : Int).toNat = 1 from rfl, ba_suf1]
          refine ztG rfl rfl (zc rfl (tHasPre_c q 43 _ (by omega))) ?_
          refine zg1 ?_
          refine zsp 82 rfl (fun h15 => ?_) fun h15 => ?_
          ·rw [h15]; (try simp only [decide_eq_true_eq, decide_eq_false_iff_not, Bool.not_eq_true', Bool.not_eq_false', Int.not_lt, Int.not_le, Bool.not_true, Bool.not_false, Int.toNat_natCast, Int.toNat_zero, bne_iff_ne, beq_iff_eq, beq_eq_false_iff_ne, ne_eq, Decidable.not_not] at h15)
           refine zv7 ?_
           refine ⟨(), trivial, ⟨rfl, rfl, rfl, rfl, ?_, trivial⟩, rfl⟩
           rw [pExp3]
           refine congrArg AV.bool ?_
           clear hj hj0 hjp hdd htk htl
           simp_all [ba_inj, ba_nil]
          ·rw [h15]; (try simp only [decide_eq_true_eq, decide_eq_false_iff_not, Bool.not_eq_true', Bool.not_eq_false', Int.not_lt, Int.not_le, Bool.not_true, Bool.not_false, Int.toNat_natCast, Int.toNat_zero, bne_iff_ne, beq_iff_eq, beq_eq_false_iff_ne, ne_eq, Decidable.not_not] at h15)
           refine zv7 ?_
           refine ⟨(), trivial, ⟨rfl, rfl, rfl, rfl, ?_, trivial⟩, rfl⟩
           rw [pExp3]
           refine congrArg AV.bool ?_
           clear hj hj0 hjp hdd htk htl
           simp_all [ba_inj, ba_nil]
         ·rw [h14]; (try simp only [decide_eq_true_eq, decide_eq_false_iff_not, Bool.not_eq_true', Bool.not_eq_false', Int.not_lt, Int.not_le, Bool.not_true, Bool.not_false, Int.toNat_natCast, Int.toNat_zero, bne_iff_ne, beq_iff_eq, beq_eq_false_iff_ne, ne_eq, Decidable.not_not] at h14)
          refine zg10 ?_
          refine zg1 ?_
          refine zon ?_
          refine ⟨(), trivial, ⟨rfl, rfl, rfl, rfl, ?_, trivial⟩, rfl⟩
          rw [pExp3]
          refine congrArg AV.bool ?_
          clear hj hj0 hjp hdd htk htl
          simp_all [ba_inj, ba_nil]
        ·rw [h13]; (try simp only [decide_eq_true_eq, decide_eq_false_iff_not, Bool.not_eq_true', Bool.not_eq_false', Int.not_lt, Int.not_le, Bool.not_true, Bool.not_false, Int.toNat_natCast, Int.toNat_zero, bne_iff_ne, beq_iff_eq, beq_eq_false_iff_ne, ne_eq, Decidable.not_not] at h13)
         refine zg10 ?_
         refine zg8 ?_
         refine zon ?_
         refine ⟨(), trivial, ⟨rfl, rfl, rfl, rfl, ?_, trivial⟩, rfl⟩
         rw [pExp3]
         refine congrArg AV.bool ?_
         clear hj hj0 hjp hdd htk htl
         simp_all [ba_inj, ba_nil]
       ·rw [h12]; (try simp only [decide_eq_true_eq, decide_eq_false_iff_not, Bool.not_eq_true', Bool.not_eq_false', Int.not_lt, Int.not_le, Bool.not_true, Bool.not_false, Int.toNat_natCast, Int.toNat_zero, bne_iff_ne, beq_iff_eq, beq_eq_false_iff_ne, ne_eq, Decidable.not_not] at h12)
        refine zg20 ?_
        refine zg2 ?_
        refine zon ?_
        refine ⟨(), trivial, ⟨rfl, rfl, rfl, rfl, ?_, trivial⟩, rfl⟩
        rw [pExp3]
        refine congrArg AV.bool ?_
        clear hj hj0 hjp hdd htk htl
        simp_all [ba_inj, ba_nil]
     ·skip
      refine zw8 ?_
      refine zrt ?_
      refine ResQ_40 rfl rfl rfl rfl hcl (by simp [AV.lt, AV.ltL]) (Ret_of ?_)
      rw [pParts_some hj0 hjp]; rfl
end Lg
namespace Lg
open Go
theorem valL_nat : ∀ (l : BL) (v : Nat), aD l → Lib.decFrom v l = some (valL v l).toNat ∧ 0 ≤ valL v l ∧ valL v l < ((v : Int) + 1) * 10 ^ l.length
  | [], v, _ => ⟨by simp [Lib.decFrom, valL], by simp [valL], by simp [valL]; omega⟩
  | b :: l, v, h => by
    obtain ⟨hb, hl⟩ := aD_cons h
    have hd : Lib.digitVal b = some (b.toNat - 48) := by unfold Lib.digitVal; rw [if_pos hb]
    have hv : valL v (b :: l) = valL ((v * 10 + (b.toNat - 48) : Nat) : Int) l := by
      show valL (10 * (v : Int) + (b.toNat : Int) - 48) l = _
      congr 1; omega
    obtain ⟨h1, h2, h3⟩ := valL_nat l (v * 10 + (b.toNat - 48)) hl
    rw [hv]
    refine ⟨?_, h2, ?_⟩
    · simp only [Lib.decFrom, hd]; exact h1
    · refine Int.lt_of_lt_of_le h3 ?_
      rw [List.length_cons, Int.pow_succ, Int.mul_comm (10 ^ l.length) 10, ← Int.mul_assoc]
      exact Int.mul_le_mul_of_nonneg_right (by omega) (Int.pow_nonneg (by omega))
theorem atoi_val {l : BL} (h : aD l) : Lib.atoi (48 :: l) = some (valL 0 l) := by
  have hd : aD (48 :: l) := fun b hb => by
    rcases List.mem_cons.1 hb with rfl | hb
    · rfl
    · exact h b hb
  obtain ⟨h1, h2, _⟩ := valL_nat (48 :: l) 0 hd
  have e : valL ((0 : Nat) : Int) (48 :: l) = valL 0 l := rfl
  rw [e] at h1 h2
  have e2 : Lib.atoi (48 :: l) = (Lib.decFrom 0 (48 :: l)).map fun (m : Nat) => (m : Int) := rfl
  rw [e2, h1]
  simp only [Option.map_some, Option.some.injEq]
  omega
def smallI (e : BL) : Int := if hd45 e = true then -smallN (strip 45 e) else smallN (strip 45 e)
theorem smallN_bnd {x : BL} (h : aD x) : 0 ≤ smallN x ∧ smallN x ≤ 1000000000000000 := by
  unfold smallN
  split
  · rename_i hl
    obtain ⟨_, h2, h3⟩ := valL_nat (x.dropWhile (· == 48)) 0 (aD_dw h)
    refine ⟨h2, ?_⟩
    have hp : (10 : Int) ^ (x.dropWhile (· == 48)).length ≤ 10 ^ 15 := by
      have := Nat.pow_le_pow_right (n := 10) (by omega) (show (x.dropWhile (· == 48)).length ≤ 15 by omega)
      exact_mod_cast this
    have : (((0 : Nat) : Int) + 1) * 10 ^ (x.dropWhile (· == 48)).length ≤ 1000000000000000 := by
      rw [show (((0 : Nat) : Int) + 1) = 1 from rfl, Int.one_mul]; exact hp
    have h4 : valL 0 (x.dropWhile (· == 48)) = valL ((0 : Nat) : Int) (x.dropWhile (· == 48)) := rfl
    omega
  · omega
theorem smallI_bnd {e : BL} (h : aD (strip 45 e)) : -1000000000000000 ≤ smallI e ∧ smallI e ≤ 1000000000000000 := by
  have := smallN_bnd h
  unfold smallI; split <;> omega
def pAll (l : BL) : BL := cutL ((pParts (strip 45 l)).1 ++ (pParts (strip 45 l)).2.1)
def pX (l : BL) : Int := smallI (pParts (strip 45 l)).2.2.1 - (pParts (strip 45 l)).2.1.length + (pAll l).length - (cutR (pAll l)).length
theorem pNum_bad {l : BL} (h : (pParts (strip 45 l)).2.2.2 = false) : pNum l = ({}, 1) := by unfold pNum; rw [if_pos h]
theorem pNum_zero {l : BL} (h : (pParts (strip 45 l)).2.2.2 = true) (h2 : pAll l = []) : pNum l = ({}, 0) := by unfold pNum; rw [if_neg (by simp [h])]; exact if_pos h2
theorem pNum_large {l : BL} (h : (pParts (strip 45 l)).2.2.2 = true) (h2 : ¬ pAll l = []) (h3 : 60 < (cutR (pAll l)).length ∨ 1000 < pX l ∨ pX l < -1000) : pNum l = ({}, 5) := by unfold pNum; rw [if_neg (by simp [h])]; exact (if_neg h2).trans (if_pos h3)
theorem pNum_some {l : BL} (h : (pParts (strip 45 l)).2.2.2 = true) (h2 : ¬ pAll l = []) (h3 : ¬ (60 < (cutR (pAll l)).length ∨ 1000 < pX l ∨ pX l < -1000)) : pNum l = (⟨hd45 l, ba (cutR (pAll l)), pX l⟩, 0) := by unfold pNum; rw [if_neg (by simp [h])]; exact (if_neg h2).trans (if_neg h3)
theorem pExp_len (r : BL) : (pExp r).1.length ≤ r.length + 1 := by
  cases r with
  | nil => simp [pExp]
  | cons b q => have := strip_len 43 q; simp only [pExp, List.length_cons]; omega
theorem pParts_len (m : BL) : (pParts m).1.length + (pParts m).2.1.length ≤ m.length ∧ (pParts m).2.2.1.length ≤ m.length + 1 := by
  unfold pParts
  split
  · simp
  · cases hf : pFrac (m.dropWhile isD) with
    | none => simp
    | some z =>
      obtain ⟨f, r⟩ := z
      have h1 := pFrac_len hf
      have h2 := congrArg List.length (List.takeWhile_append_dropWhile (p := isD) (l := m))
      have h3 := pExp_len r
      simp only [List.length_append] at h2 ⊢
      omega
theorem cutL_len (l : BL) : (cutL l).length ≤ l.length := (List.dropWhile_sublist _).length_le
theorem hd45_bat {e : BL} (h : e ≠ []) : hd45 e = true ↔ ((bat (ba e) 0).toNat : Int) = 45 := by
  cases e with
  | nil => exact absurd rfl h
  | cons b q =>
    rw [bat0]
    simp only [hd45, beq_iff_eq]
    constructor
    · rintro rfl; rfl
    · intro h; exact UInt8.toNat_inj.1 (by have : (45 : UInt8).toNat = 45 := rfl; omega)
theorem hng (l : BL) : (!decide (ba (strip 45 l) = ba l)) = hd45 l := by
  have := hd45_strip l
  cases h : hd45 l with
  | true => simpa [ba_inj] using this.2 h
  | false =>
    simp only [Bool.not_eq_false', decide_eq_true_eq, ba_inj]
    exact Decidable.not_not.1 (fun k => by rw [this.1 k] at h; cases h)
theorem pX_eq (l : BL) : pX l = smallI (pParts (strip 45 l)).2.2.1 - ((ba (pParts (strip 45 l)).2.1).size : Int) + ((ba (pAll l)).size : Int) - ((ba (cutR (pAll l))).size : Int) := by
  simp only [ba_size]; rfl
end Lg
namespace Lg
open Go Go.RowKit
variable [GLay] {P : Program} {N : Nat} {σ l : List AO} {e : Env} {Q : QA} {o : Oper}
theorem spl_set (v : AV) : ∀ (i : Nat) (cs : List AV), i < cs.length → spl i cs [v] = some (cs.set i v)
  | 0, [], h => by simp at h
  | 0, c :: cs, _ => by simp [spl, putAt]
  | i + 1, [], h => by simp at h
  | i + 1, c :: cs, h => by simp [spl, spl_set v i cs (by simpa using h)]
theorem ldv_el {j g sz off i : Nat} {cs : List AV} {v : AV} (hl : l[j]? = some (.arr sz g cs)) (hv : cs[i]? = some v) (ho : off = i) : ldv (σ ++ l) 1 (.pel (σ.length + j) g off) = some [v] := by
  subst ho
  simp only [ldv, get_own, hl, if_true]
  have hi := (List.getElem?_eq_some_iff.1 hv).1
  rw [List.drop_eq_getElem_cons hi, (List.getElem?_eq_some_iff.1 hv).2]
  rfl
end Lg
namespace Lg
open Go
theorem pcs_len (c : UInt8) : ∀ l : BL, (pcs c l).length ≤ l.length + 1
  | [] => by simp [pcs]
  | b :: l => by
    have ih := pcs_len c l
    unfold pcs
    split
    · simp only [List.length_cons]; omega
    · split
      · simp
      · rename_i p r h; rw [h] at ih; simp only [List.length_cons] at ih ⊢; omega
end Lg
namespace Lg
open Go
end Lg
namespace Lg
open Go
theorem pune_len (l : BL) (h : okP l) : (pune l).length ≤ l.length := by
  refine okP_ind (M := fun l => (pune l).length ≤ l.length) (Nat.le_refl _) ?_ ?_ ?_ l.length l (Nat.le_refl _) h
  · intro r _ ih; show (126 :: pune r).length ≤ _; simp only [List.length_cons]; omega
  · intro r _ ih; show (47 :: pune r).length ≤ _; simp only [List.length_cons]; omega
  · intro b r hb _ ih; rw [une_c hb]; simp only [List.length_cons]; omega
variable [GLay] {P : Program} {σ : List AO}
end Lg
namespace Lg
open Go
theorem pcs_split (c : UInt8) : ∀ l : BL, ∃ ps p, pcs c l = ps ++ [p]
  | [] => ⟨[], [], rfl⟩
  | b :: l => by
    obtain ⟨ps, p, h⟩ := pcs_split c l
    unfold pcs
    split
    · exact ⟨[] :: ps, p, by rw [h]; rfl⟩
    · rw [h]
      cases ps with
      | nil => exact ⟨[], b :: p, rfl⟩
      | cons q r => exact ⟨(b :: q) :: r, p, rfl⟩
theorem pcs_snoc {b c : UInt8} (hb : ¬ b = c) : ∀ {l : BL} {ps : List BL} {p : BL}, pcs c l = ps ++ [p] → pcs c (l ++ [b]) = ps ++ [p ++ [b]]
  | [], ps, p, h => by
    have : ps = [] ∧ p = [] := by
      rw [pcs] at h
      cases ps with
      | nil => simp at h; exact ⟨rfl, h⟩
      | cons q r => simp at h
    obtain ⟨rfl, rfl⟩ := this
    simp [pcs, hb]
  | a :: l, ps, p, h => by
    obtain ⟨qs, q, hq⟩ := pcs_split c l
    have ih := pcs_snoc hb hq
    rw [List.cons_append, pcs, ih]
    rw [pcs, hq] at h
    split at h
    · rename_i e
      rw [if_pos e]
      have h2 : ([] :: qs) ++ [q] = ps ++ [p] := h
      obtain ⟨h3, h4⟩ := List.append_inj' h2 rfl
      subst h3; simp at h4; subst h4; rfl
    · rename_i e
      rw [if_neg e]
      cases qs with
      | nil =>
        have h2 : [] ++ [a :: q] = ps ++ [p] := h
        obtain ⟨h3, h4⟩ := List.append_inj' h2 rfl
        subst h3; simp at h4; subst h4; rfl
      | cons r rs =>
        have h2 : ((a :: r) :: rs) ++ [q] = ps ++ [p] := h
        obtain ⟨h3, h4⟩ := List.append_inj' h2 rfl
        subst h3; simp at h4; subst h4; rfl
theorem pune_app (m : BL) : ∀ (n : Nat) (l : BL), l.length ≤ n → okP l → pune (l ++ m) = pune l ++ pune m :=
  okP_ind (M := fun l => pune (l ++ m) = pune l ++ pune m) rfl
    (fun r _ ih => by simp only [List.cons_append, pune, ih]) (fun r _ ih => by simp only [List.cons_append, pune, ih])
    (fun b r hb _ ih => by rw [List.cons_append, une_c hb, une_c hb, ih]; rfl)
def nms (u : BL) : List BL := (pcs 47 u).map pune
theorem nms_split (u : BL) : ∃ ps p, nms u = ps ++ [p] := by
  obtain ⟨ps, p, h⟩ := pcs_split 47 u
  exact ⟨ps.map pune, pune p, by simp [nms, h]⟩
theorem nms_e {u : BL} {ps : List BL} {p : BL} {b : UInt8} (h : nms u = ps ++ [p]) (hu : okP u) (hb : b = 48 ∨ b = 49) : nms (u ++ [126, b]) = ps ++ [p ++ [if b = 49 then 47 else 126]] := by
  obtain ⟨qs, q, hq⟩ := pcs_split 47 u
  have hok := pcs_ok u.length u (Nat.le_refl _) hu q (by rw [hq]; simp)
  have h1 := pcs_snoc (b := 126) (c := 47) (by decide) hq
  have h2 := pcs_snoc (b := b) (c := 47) (by rcases hb with rfl | rfl <;> decide) h1
  rw [show u ++ [126, b] = u ++ [126] ++ [b] by simp]
  unfold nms at h ⊢
  rw [h2]
  rw [hq, List.map_append] at h
  obtain ⟨h3, h4⟩ := List.append_inj' h rfl
  simp at h4; subst h3; subst h4
  rw [List.map_append, List.map_cons, List.map_nil, show q ++ [126] ++ [b] = q ++ [126, b] by simp, pune_app [126, b] _ q (Nat.le_refl _) hok.1]
  rcases hb with rfl | rfl <;> rfl
theorem okP_snoc2 {u : BL} {b : UInt8} (h : okP u) (hb : b = 48 ∨ b = 49) : okP (u ++ [126, b]) := fun i hi => by
  rcases Nat.lt_trichotomy i u.length with h1 | h1 | h1
  · rw [List.getElem?_append_left h1] at hi
    have := h i hi
    have h2 : i + 1 < u.length := by
      rcases this with h | h <;> exact (List.getElem?_eq_some_iff.1 h).1
    rwa [List.getElem?_append_left h2]
  · subst h1
    rw [List.getElem?_append_right (by omega), Nat.add_sub_cancel_left]
    rcases hb with rfl | rfl <;> simp
  · rw [List.getElem?_append_right (by omega)] at hi
    obtain ⟨k, hk⟩ : ∃ k, i - u.length = k + 1 := ⟨i - u.length - 1, by omega⟩
    rw [hk] at hi
    cases k with
    | zero => simp at hi; rcases hb with rfl | rfl <;> cases hi
    | succ k => simp at hi
theorem take_b {s : BL} {i : Nat} {b : UInt8} (h : s[i]? = some b) (hi : 1 ≤ i) : (s.take (i + 1)).drop 1 = (s.take i).drop 1 ++ [b] := by
  rw [List.take_add_one, h]
  have hl := (List.getElem?_eq_some_iff.1 h).1
  rw [List.drop_append_of_le_length (by rw [List.length_take]; omega)]; rfl
theorem take_2 {s : BL} {i : Nat} {a b : UInt8} (h : s[i]? = some a) (h2 : s[i + 1]? = some b) (hi : 1 ≤ i) : (s.take (i + 1 + 1)).drop 1 = (s.take i).drop 1 ++ [a, b] := by
  rw [take_b h2 (by omega), take_b h hi]; simp
structure PAt (s : BL) (i : Nat) (L : List BL) : Prop where
  le : i ≤ s.length
  z : i = 0 → L = []
  ok : okP ((s.take i).drop 1)
  nm : 1 ≤ i → L = nms ((s.take i).drop 1)
  bad : ∀ j, j < i → tbad s j = false
theorem PAt.zero (s : BL) : PAt s 0 [] := ⟨Nat.zero_le _, fun _ => rfl, okP_nil, fun h => absurd h (by omega), fun j h => absurd h (by omega)⟩
theorem tb_no {s : BL} {i : Nat} {b : UInt8} (h : s[i]? = some b) (hb : ¬ b = 126) : tbad s i = false := by
  unfold tbad; rw [decide_eq_false (by rw [h]; simpa using hb)]; rfl
theorem PAt.esc {s : BL} {i : Nat} {L ps : List BL} {q : BL} {b : UInt8} (p : PAt s i L) (hi : 1 ≤ i) (hL : L = ps ++ [q]) (h : s[i]? = some 126) (h2 : s[i + 1]? = some b) (hb : b = 48 ∨ b = 49) : PAt s (i + 1 + 1) (ps ++ [q ++ [if b = 49 then 47 else 126]]) where
  le := (List.getElem?_eq_some_iff.1 h2).1
  z := fun e => absurd e (by omega)
  ok := by rw [take_2 h h2 hi]; exact okP_snoc2 p.ok hb
  nm := fun _ => by rw [take_2 h h2 hi]; exact (nms_e ((p.nm hi).symm.trans hL) p.ok hb).symm
  bad := fun j hj => by
    by_cases e : j = i
    · subst e; unfold tbad; rw [h2]; rcases hb with rfl | rfl <;> simp
    · by_cases e2 : j = i + 1
      · subst e2; exact tb_no h2 (by rcases hb with rfl | rfl <;> decide)
      · exact p.bad j (by omega)
theorem PAt.done {s : BL} {L : List BL} (p : PAt s s.length L) (h0 : ¬ s = []) (h1 : s[0]? = some 47) : pE s = none ∧ pN s = L := by
  have hl : 1 ≤ s.length := List.length_pos_iff.2 h0
  have hE : pE s = none := pE_none h0 h1 p.bad
  refine ⟨hE, ?_⟩
  rw [p.nm hl]
  unfold pN; rw [if_neg h0, hE, List.take_length]; rfl
theorem PAt.last {s : BL} {i : Nat} {L : List BL} (p : PAt s i L) (hi : 1 ≤ i) : ∃ ps q, L = ps ++ [q] := by
  obtain ⟨ps, q, h⟩ := nms_split ((s.take i).drop 1)
  exact ⟨ps, q, (p.nm hi).trans h⟩
theorem PAt.len {s : BL} {i : Nat} {L : List BL} (p : PAt s i L) : L.length ≤ i + 1 := by
  by_cases h0 : i = 0
  · rw [p.z h0]; simp
  · rw [p.nm (by omega)]; unfold nms; rw [List.length_map]
    have := pcs_len 47 ((s.take i).drop 1)
    rw [List.length_drop, List.length_take] at this; omega
theorem PAt.el {s : BL} {i : Nat} {L : List BL} (p : PAt s i L) : ∀ x ∈ L, x.length ≤ i := by
  intro x hx
  by_cases h0 : i = 0
  · rw [p.z h0] at hx; cases hx
  · rw [p.nm (by omega)] at hx
    unfold nms at hx
    obtain ⟨y, hy, rfl⟩ := List.mem_map.1 hx
    have h1 := pcs_ok _ _ (Nat.le_refl _) p.ok y hy
    have := pune_len y h1.1
    have h2 := h1.2.2
    rw [List.length_drop, List.length_take] at h2; omega
end Lg
namespace Lg
open Go Go.RowKit
variable [GLay]
variable {P : Program} {N : Nat} {σ : List AO} {e : Env} {o : Oper} {p : Nat}
section
variable {T K E : TypeId} {a b c : Operand} {m : List (Int × AV)} {k : Int} {z : Value}
end
end Lg
namespace Lg
open Go Go.RowKit
variable [GLay]
variable {P : Program} {N : Nat} {e : Env} {σ l : List AO} {Q : QA} {ops : Array Oper} {o : Oper}
theorem AWp_ghostInO {c : Code} (k i sz n : Nat) (hn : l.length = n) {bs : List AV} (hq : l[k]? = some (.box bs)) (hi : bs[i]? = some .nils) (h : AWp P N c e (σ ++ (l ++ [AO.arr sz 0 []]).set k (.box (bs.set i (.arr (σ.length + n) 0 sz 0 0)))) Q) : AWp P N c e (σ ++ l) Q :=
  AWp_ghostIn (σ.length + k) i sz (by rw [get_ownT rfl]; exact hq) hi (by
    have e1 : (σ ++ l).length = σ.length + n := by simp [hn]
    rw [e1, List.append_assoc, set_ownT rfl]; exact h)
theorem AWp_freezeInO {c : Code} (kq i kp gg sz len : Nat) {bs cs : List AV} (hq : l[kq]? = some (.box bs)) (hi : bs[i]? = some (.arr (σ.length + kp) gg sz 0 len)) (hσ : l[kp]? = some (.arr sz gg cs)) (es : List (List AV)) (hes : es.flatten = cs)
    (hel : ∀ r ∈ es, r.length = sz) (hlen : es.length = len) (hsz : sz ≠ 0) (k : AWp P N c e (σ ++ (l.set kp .dead).set kq (.box (bs.set i (.sl false sz es)))) Q) : AWp P N c e (σ ++ l) Q := by
  have hcl : cs.length = len * sz := by rw [← hes, flatten_len hel, hlen]
  refine AWp_freezeIn (σ.length + kq) i (σ.length + kp) gg sz 0 len (by rw [get_ownT rfl]; exact hq) hi (by rw [get_ownT rfl]; exact hσ) es ?_ hel hlen hsz ?_ (by rw [set_ownT rfl, set_ownT rfl]; exact k)
  · rw [Nat.zero_mul, List.drop_zero, ← hcl, List.take_length]; exact hes
  · rw [Nat.zero_add, hcl]; exact Nat.le_refl _
theorem AWp_freezeBoxO {c : Code} (t k : Nat) {cs : List AV} (hl : lookO e.l t = some (.ptr (σ.length + k) 0)) (hk : l[k]? = some (.box cs)) (h : AWp P N c (e.put (some t) (.pp cs)) (σ ++ l.set k .gone) Q) (ht : t < N) : AWp P N c e (σ ++ l) Q :=
  AWp_freeze t (σ.length + k) 0 hl (by rw [get_own]; exact hk) (by rw [set_own]; exact h) ht
end Lg
namespace Lg
open Go
structure JOp where
  op : Int
  pa : List BL
  fr : List BL
  v : JV
def ocells (o : JOp) : List AV := .int .i64 o.op :: .sl false 1 (srow o.pa) :: .sl false 1 (srow o.fr) :: vcells o.v
def orows (l : List JOp) : List (List AV) := l.map ocells
section
variable [GLay]
@[simp] theorem ocells_lt (n : Nat) (o : JOp) : AV.ltL n (ocells o) := by
  rw [ocells]; exact ⟨trivial, srow_lt n _, srow_lt n _, vcells_lt n _⟩
@[simp] theorem orows_lt (n : Nat) (l : List JOp) : AV.ltLL n (orows l) := by
  rw [AV.ltLL_iff]; intro e he; simp [orows] at he; obtain ⟨x, _, rfl⟩ := he; exact ocells_lt n x
@[simp] theorem oflat_lt (n : Nat) (l : List JOp) : AV.ltL n (orows l).flatten := by
  rw [AV.ltL_iff]; intro a ha
  obtain ⟨e, he, h⟩ := List.mem_flatten.1 ha
  exact (AV.ltL_iff _ _).1 ((AV.ltLL_iff _ _).1 (orows_lt n l) e he) a h
end
def jfD (v : JV) (key : ByteArray) : JV := (jfind v key).getD vz
def jfB (v : JV) (key : ByteArray) : Bool := (jfind v key).isSome
section
variable [GLay]
end
end Lg
namespace Lg
open Go
end Lg
namespace Lg
open Go Go.RowKit
variable [GLay] {P : Program} {N : Nat} {σ l : List AO} {e : Env} {Q : QA} {o : Oper}
end Lg
namespace Lg
open Go
end Lg
namespace Lg
open Go
section
variable [GLay]
end
end Lg
namespace Lg
open Go
def DD (r : RS) (x : JV × RS) : Prop := r.deep ≤ 32 → x.2.bad = 0 → jdepth x.1 + r.deep ≤ 32
section
variable [GLay]
variable {rv : RS → JV × RS} {s : ByteArray} (hs : s.size ≤ 100000) (hrv : ∀ r, ROK s r → VR s r (rv r)) (hd : ∀ r, ROK s r → DD r (rv r))
include hrv hd
include hs
end
section
variable [GLay]
end
section
variable [GLay]
theorem may_nol {v : JV} (h : jmay v) (hk : ¬ v.kind = 4) : v.l = [] := by
  have hb := ((jmay_eq v).1 h).1.2.2.1
  unfold jbare at hb
  simp only [hk, Bool.and_eq_true, Bool.or_eq_true, decide_eq_true_eq, or_false] at hb
  exact List.length_eq_zero_iff.1 hb.2.1
theorem may_nom {v : JV} (h : jmay v) (hk : ¬ v.kind = 5) : v.m = [] := by
  have hb := ((jmay_eq v).1 h).1.2.2.1
  unfold jbare at hb
  simp only [hk, Bool.and_eq_true, Bool.or_eq_true, decide_eq_true_eq, or_false] at hb
  exact List.length_eq_zero_iff.1 hb.2.2
theorem may_get {v : JV} (h : jmay v) {i : Nat} {x : JV} (hx : v.l[i]? = some x) : jmay x := ((jmay_eq v).1 h).2.2 i x hx
theorem may_mget {v : JV} (h : jmay v) {i : Nat} {q : ByteArray × JV} (hq : v.m[i]? = some q) : jmay q.2 :=
  (((jmay_eq v).1 h).2.1 i q (List.getElem?_eq_some_iff.1 hq).1 hq).2
end
end Lg
namespace Lg
open Go
section
variable [GLay]
structure OB (o : JOp) : Prop where
  jb : jb o.v
  pa : o.pa.length ≤ 2000000
  fr : o.fr.length ≤ 2000000
end
end Lg
namespace Lg
open Go
end Lg
namespace Lg
open Go
def cmpL : BL → BL → Int
  | [], [] => 0
  | [], _ :: _ => -1
  | _ :: _, [] => 1
  | a :: x, b :: y => if a.toNat < b.toNat then -1 else if b.toNat < a.toNat then 1 else cmpL x y
theorem cmpL_cases : ∀ (x y : BL), cmpL x y = 0 ∨ cmpL x y = -1 ∨ cmpL x y = 1
  | [], [] => .inl rfl
  | [], _ :: _ => .inr (.inl rfl)
  | _ :: _, [] => .inr (.inr rfl)
  | a :: x, b :: y => by
    simp only [cmpL]; split
    · exact .inr (.inl rfl)
    · split
      · exact .inr (.inr rfl)
      · exact cmpL_cases x y
theorem cmpL_less : ∀ (x y : BL), Op.bytesLess x y = decide (cmpL x y = -1)
  | [], [] => rfl
  | [], _ :: _ => rfl
  | _ :: _, [] => rfl
  | a :: x, b :: y => by
    simp only [Op.bytesLess, cmpL, cmpL_less x y]
    by_cases h : a.toNat < b.toNat
    · have h' : a < b := h
      simp [h, h']
    · have h' : ¬ a < b := h
      by_cases h2 : b.toNat < a.toNat
      · have h3 : ¬ a = b := fun e => by rw [e] at h2; omega
        simp [h, h', h2, h3]
      · have h3 : a = b := UInt8.toNat_inj.1 (by omega)
        subst h3; simp [h']
theorem blt_cmp (x y : BL) : blt (ba x) (ba y) = decide (cmpL x y = -1) := by
  unfold blt
  rw [ByteArray.toList_eq, ByteArray.toList_eq, ba_toList, ba_toList, cmpL_less]
theorem cmpL_eq : ∀ (x y : BL), cmpL x y = 0 ↔ x = y
  | [], [] => by simp [cmpL]
  | [], _ :: _ => by simp [cmpL]
  | _ :: _, [] => by simp [cmpL]
  | a :: x, b :: y => by
    simp only [cmpL]
    by_cases h : a.toNat < b.toNat
    · simp only [if_pos h]
      constructor
      · intro e; omega
      · intro e; rw [(List.cons.inj e).1] at h; omega
    · by_cases h2 : b.toNat < a.toNat
      · simp only [if_neg h, if_pos h2]
        constructor
        · intro e; omega
        · intro e; rw [(List.cons.inj e).1] at h2; omega
      · have h3 : a = b := UInt8.toNat_inj.1 (by omega)
        subst h3
        simp [cmpL_eq x y]
theorem cmpS_cmpL (x y : BL) : cmpS (ba x) (ba y) = cmpL x y := by
  unfold cmpS
  rw [blt_cmp]
  rcases cmpL_cases x y with h | h | h
  · have e := (cmpL_eq x y).1 h
    subst e
    simp [h]
  · simp [h]
  · have e : ¬ ba x = ba y := fun e => by
      have := (cmpL_eq x y).2 (ba_inj.1 e); omega
    simp [h, e]
end Lg
namespace Lg
open Go
structure JOk (n : JNum) (d : BL) : Prop where
  dig : n.digits = ba d
  ne : d ≠ []
  ad : aD d
  hd : d.head? ≠ some 48
  lst : d.getLast? ≠ some 48
  len : d.length ≤ 60
  lo : -1000 ≤ n.exp
  hi : n.exp ≤ 1000
def JMay (n : JNum) : Prop := n = {} ∨ ∃ d, JOk n d
theorem JOk.nil {n : JNum} {d : BL} (h : JOk n d) : ¬ n.digits = ⟨#[]⟩ := fun e => h.ne (ba_nil.1 (h.dig ▸ e))
theorem JOk.size {n : JNum} {d : BL} (h : JOk n d) : n.digits.size = d.length := by rw [h.dig, ba_size]
theorem JMay.bnd {n : JNum} (h : JMay n) : n.digits.size ≤ 1000000 ∧ -1000000 ≤ n.exp ∧ n.exp ≤ 1000000 := by
  rcases h with rfl | ⟨d, h⟩
  · exact ⟨by decide, by decide, by decide⟩
  · have := h.size; have := h.len; have := h.lo; have := h.hi
    omega
theorem aD_cutR {l : BL} (h : aD l) : aD (cutR l) := fun b hb => by
  rw [cutR_pre] at hb
  exact h b (List.mem_of_mem_take hb)
theorem aD_cutL {l : BL} (h : aD l) : aD (cutL l) := fun b hb => h b ((List.dropWhile_sublist _).mem hb)
theorem pNum_may (l : BL) : JMay (pNum l).1 ∧ ((pNum l).2 = 0 ∨ (pNum l).2 = 1 ∨ (pNum l).2 = 5) ∧ ((pNum l).2 ≠ 0 → (pNum l).1 = {}) := by
  by_cases h : (pParts (strip 45 l)).2.2.2 = true
  · obtain ⟨_, _, _, _, _, had, _⟩ := gathered h false
    by_cases h2 : pAll l = []
    · rw [pNum_zero h h2]; exact ⟨.inl rfl, .inl rfl, fun _ => rfl⟩
    · by_cases h3 : 60 < (cutR (pAll l)).length ∨ 1000 < pX l ∨ pX l < -1000
      · rw [pNum_large h h2 h3]; exact ⟨.inl rfl, .inr (.inr rfl), fun _ => rfl⟩
      · rw [pNum_some h h2 h3]
        have hh := cutL_head ((pParts (strip 45 l)).1 ++ (pParts (strip 45 l)).2.1)
        have hc : cutR (pAll l) ≠ [] := fun e => h2 ((cutR_nil hh).1 e)
        refine ⟨.inr ⟨cutR (pAll l), rfl, hc, aD_cutR (aD_cutL had), ?_, ?_, by omega, by show -1000 ≤ pX l; omega, by show pX l ≤ 1000; omega⟩, .inl rfl, fun k => absurd rfl k⟩
        · rw [cutR_head hc]; exact fun e => hh 48 e rfl
        · rw [List.getLast?_eq_some_getLast hc]; exact fun e => cutR_last hc (Option.some.inj e)
  · rw [pNum_bad (by simpa using h)]; exact ⟨.inl rfl, .inr (.inl rfl), fun _ => rfl⟩
theorem whole_ok {n : JNum} (h : JMay n) : decide (0 ≤ n.exp) = rWhole n := by
  rcases h with rfl | ⟨d, h⟩
  · rfl
  · unfold rWhole; rw [decide_eq_false h.nil]; rfl
theorem JOk.sign {n : JNum} {d : BL} (h : JOk n d) : jsign n = if n.neg = true then -1 else 1 := by unfold jsign; rw [if_neg h.nil]
theorem cmpI_zero (x y : Int) : cmpI x y = 0 ↔ x = y := by unfold cmpI; split <;> (try split) <;> omega
def kcmp (a b : JNum) (d e : BL) : Int := if cmpI (d.length + a.exp) (e.length + b.exp) = 0 then cmpL d e else cmpI (d.length + a.exp) (e.length + b.exp)
theorem pCmp_ok {a b : JNum} {d e : BL} (ha : JOk a d) (hb : JOk b e) : pCmp a b = if a.neg = b.neg then (if a.neg = true then - kcmp a b d e else kcmp a b d e) else (if a.neg = true then -1 else 1) := by
  unfold pCmp
  rw [ha.sign, hb.sign, ha.size, hb.size, ha.dig, hb.dig, cmpS_cmpL]
  show _ = if a.neg = b.neg then (if a.neg = true then - kcmp a b d e else kcmp a b d e) else _
  unfold kcmp
  cases a.neg <;> cases b.neg <;> simp [cmpI]
theorem pCmp_zl {a b : JNum} {e : BL} (ha : a = {}) (hb : JOk b e) : pCmp a b = if b.neg = true then 1 else -1 := by
  unfold pCmp; rw [hb.sign, ha, show jsign ({} : JNum) = 0 from rfl]
  cases b.neg <;> simp [cmpI]
theorem pCmp_zr {a b : JNum} {d : BL} (ha : JOk a d) (hb : b = {}) : pCmp a b = if a.neg = true then -1 else 1 := by
  unfold pCmp; rw [ha.sign, hb, show jsign ({} : JNum) = 0 from rfl]
  cases a.neg <;> simp [cmpI]
theorem pCmp_zz : pCmp {} {} = 0 := by unfold pCmp; rw [if_pos rfl, show jsign ({} : JNum) = 0 from rfl, Int.zero_mul]
theorem kcmp_zero {a b : JNum} {d e : BL} : kcmp a b d e = 0 ↔ d = e ∧ a.exp = b.exp := by
  unfold kcmp
  by_cases h : cmpI (d.length + a.exp) (e.length + b.exp) = 0
  · rw [if_pos h, cmpL_eq]
    rw [cmpI_zero] at h
    constructor
    · rintro rfl; exact ⟨rfl, by omega⟩
    · exact fun h => h.1
  · rw [if_neg h]
    constructor
    · exact fun k => absurd k h
    · rintro ⟨rfl, h2⟩; rw [cmpI_zero] at h; exact absurd (by rw [h2]) h
theorem pCmp_zero {a b : JNum} (ha : JMay a) (hb : JMay b) : pCmp a b = 0 ↔ a = b := by
  rcases ha with rfl | ⟨d, ha⟩
  · rcases hb with rfl | ⟨e, hb⟩
    · simp [pCmp_zz]
    · rw [pCmp_zl rfl hb]
      constructor
      · intro h; cases hh : b.neg <;> rw [hh] at h <;> simp at h
      · intro h; exact absurd (by rw [← h]) hb.nil
  · rcases hb with rfl | ⟨e, hb⟩
    · rw [pCmp_zr ha rfl]
      constructor
      · intro h; cases hh : a.neg <;> rw [hh] at h <;> simp at h
      · intro h; exact absurd (by rw [h]) ha.nil
    · rw [pCmp_ok ha hb]
      constructor
      · intro h
        have hn : a.neg = b.neg := by
          cases h1 : a.neg <;> cases h2 : b.neg <;> rw [h1, h2] at h <;> simp at h ⊢
        rw [if_pos hn] at h
        have hk : kcmp a b d e = 0 := by split at h <;> omega
        obtain ⟨h1, h2⟩ := kcmp_zero.1 hk
        have h3 := ha.dig; have h4 := hb.dig
        cases a; cases b; simp only at *; subst h1; subst h2; subst hn; rw [h3, h4]
      · rintro rfl
        have hde : d = e := ba_inj.1 (ha.dig.symm.trans hb.dig)
        rw [if_pos rfl, kcmp_zero.2 ⟨hde, rfl⟩]; simp
end Lg
namespace Lg
open Go
theorem valL_snoc (l : BL) (c : UInt8) (v : Int) : valL v (l ++ [c]) = 10 * valL v l + (c.toNat : Int) - 48 := by
  unfold valL; rw [List.foldl_append]; rfl
theorem dd_facts (u : Nat) : aD (Lib.decDigits u) ∧ valL 0 (Lib.decDigits u) = u ∧ Lib.decDigits u ≠ [] ∧ (0 < u → (Lib.decDigits u).head? ≠ some 48) := by
  induction u using Nat.strongRecOn with
  | ind u ih =>
    by_cases h : u < 10
    · rw [dd_small h]
      have e : (UInt8.ofNat (48 + u)).toNat = 48 + u := by rw [UInt8.toNat_ofNat']; omega
      refine ⟨fun b hb => ?_, ?_, by simp, ?_⟩
      · have : b = UInt8.ofNat (48 + u) := by simpa using hb
        subst this; rw [isD_iff, e]; omega
      · show 10 * (0 : Int) + ((UInt8.ofNat (48 + u)).toNat : Int) - 48 = u
        rw [e]; omega
      · intro hu hh
        have : UInt8.ofNat (48 + u) = 48 := by simpa using hh
        have := congrArg UInt8.toNat this
        rw [e] at this
        have e48 : (48 : UInt8).toNat = 48 := rfl
        omega
    · rw [dd_big h]
      obtain ⟨h1, h2, h3, h4⟩ := ih (u / 10) (by omega)
      have e : (UInt8.ofNat (48 + u % 10)).toNat = 48 + u % 10 := by rw [UInt8.toNat_ofNat']; omega
      refine ⟨fun b hb => ?_, ?_, by simp, ?_⟩
      · rcases List.mem_append.1 hb with hb | hb
        · exact h1 b hb
        · have : b = UInt8.ofNat (48 + u % 10) := by simpa using hb
          subst this; rw [isD_iff, e]; omega
      · rw [valL_snoc, h2, e]; omega
      · intro hu
        have hd0 : (Lib.decDigits (u / 10) ++ [UInt8.ofNat (48 + u % 10)]).head? = (Lib.decDigits (u / 10)).head? := by
          cases hq : Lib.decDigits (u / 10) with
          | nil => exact absurd hq h3
          | cons => rfl
        rw [hd0]
        exact h4 (by omega)
theorem itoa_pos {n : Int} (h : 0 ≤ n) : Lib.itoa n = Lib.decDigits n.toNat := by unfold Lib.itoa; rw [if_neg (by omega)]
end Lg
namespace Lg
open Go
def jixB (nm : BL) : Prop := nm = [] ∨ ¬ runl (ba nm) 0 = nm.length ∨ (1 < nm.length ∧ (bat (ba nm) 0).toNat = 48) ∨ 18 < nm.length
instance (nm : BL) : Decidable (jixB nm) := by unfold jixB; infer_instance
end Lg
namespace Lg
open Go
theorem aD_run {l : BL} : aD l ↔ runl (ba l) 0 = l.length := by
  rw [runl_ba]
  constructor
  · intro h
    congr 1
    induction l with
    | nil => rfl
    | cons a r ih =>
      rw [List.takeWhile_cons, if_pos (h a (List.mem_cons_self ..)), ih (fun b hb => h b (List.mem_cons_of_mem _ hb))]
  · exact aD_of_len
end Lg
set_option maxRecDepth 20000
set_option maxHeartbeats 4000000
namespace Go.Proofs
open Go.Shelf
def Tryz.lays172_ren : Go.Shelf.Ren := ⟨fun | 172 => 181 | 244 => 209 | 245 => 210 | 247 => 228 | 279 => 229 | 280 => 230 | 281 => 231 | 282 => 232 | 287 => 246 | 316 => 247 | 171 => 148 | 205 => 248 | 321 => 255 | 322 => 256 | 243 => 174 | 246 => 198 | 283 => 220 | 284 => 221 | 285 => 222 | 286 => 223 | 129 => 240 | 317 => 239 | 318 => 241 | 319 => 242 | 320 => 243 | 337 => 251 | 338 => 252 | n => n, fun | 9 => 9 | 3 => 3 | 75 => 33 | 76 => 233 | 4 => 4 | 5 => 5 | 167 => 269 | 37 => 146 | 0 => 0 | 85 => 270 | 2 => 2 | 168 => 272 | 53 => 262 | 175 => 288 | 46 => 235 | 210 => 292 | 127 => 258 | 145 => 301 | 143 => 299 | 21 => 21 | 171 => 261 | 173 => 265 | 212 => 283 | 51 => 284 | 20 => 20 | 213 => 285 | 232 => 302 | 233 => 303 | 80 => 136 | n => n, fun | 15 => 5 | 16 => 6 | 17 => 4 | 18 => 7 | 19 => 8 | n => n⟩
theorem Tryz.lays172 : Go.Proofs.Lays.n172 Tryz.prog Tryz.lays172_ren := {
  mixed := by kernel_rfl, f129 := Tryz.func240.trans (congrArg some (by kernel_rfl)), f171 := Tryz.func148.trans (congrArg some (by kernel_rfl)), f172 := Tryz.func181.trans (congrArg some (by kernel_rfl)), f205 := Tryz.func248.trans (congrArg some (by kernel_rfl)), f243 := Tryz.func174.trans (congrArg some (by kernel_rfl)), f244 := Tryz.func209.trans (congrArg some (by kernel_rfl)), f245 := Tryz.func210.trans (congrArg some (by kernel_rfl)), f246 := Tryz.func198.trans (congrArg some (by kernel_rfl)), f247 := Tryz.func228.trans (congrArg some (by kernel_rfl)), f279 := Tryz.func229.trans (congrArg some (by kernel_rfl)), f280 := Tryz.func230.trans (congrArg some (by kernel_rfl)), f281 := Tryz.func231.trans (congrArg some (by kernel_rfl)), f282 := Tryz.func232.trans (congrArg some (by kernel_rfl)), f283 := Tryz.func220.trans (congrArg some (by kernel_rfl)), f284 := Tryz.func221.trans (congrArg some (by kernel_rfl)), f285 := Tryz.func222.trans (congrArg some (by kernel_rfl)), f286 := Tryz.func223.trans (congrArg some (by kernel_rfl)), f287 := Tryz.func246.trans (congrArg some (by kernel_rfl)), f316 := Tryz.func247.trans (congrArg some (by kernel_rfl)), f317 := Tryz.func239.trans (congrArg some (by kernel_rfl)), f318 := Tryz.func241.trans (congrArg some (by kernel_rfl)), f319 := Tryz.func242.trans (congrArg some (by kernel_rfl)), f320 := Tryz.func243.trans (congrArg some (by kernel_rfl)), f321 := Tryz.func255.trans (congrArg some (by kernel_rfl)), f322 := Tryz.func256.trans (congrArg some (by kernel_rfl)), f337 := Tryz.func251.trans (congrArg some (by kernel_rfl)), f338 := Tryz.func252.trans (congrArg some (by kernel_rfl)), t0 := Tryz.underlying0, a0 := Tryz.isAgg0, z0 := Tryz.sizeOf0, v0 := Tryz.zeroValue0, t2 := Tryz.underlying2, a2 := Tryz.isAgg2, z2 := Tryz.sizeOf2, v2 := Tryz.zeroValue2, t3 := Tryz.underlying3, a3 := Tryz.isAgg3, z3 := Tryz.sizeOf3, v3 := Tryz.zeroValue3, t4 := Tryz.underlying4, a4 := Tryz.isAgg4, z4 := Tryz.sizeOf4, v4 := Tryz.zeroValue4, t5 := Tryz.underlying5, a5 := Tryz.isAgg5, z5 := Tryz.sizeOf5, v5 := Tryz.zeroValue5, t9 := Tryz.underlying9, a9 := Tryz.isAgg9, z9 := Tryz.sizeOf9, v9 := Tryz.zeroValue9, t20 := Tryz.underlying20, a20 := Tryz.isAgg20, z20 := Tryz.sizeOf20, v20 := Tryz.zeroValue20, t21 := Tryz.underlying21, a21 := Tryz.isAgg21, z21 := Tryz.sizeOf21, v21 := Tryz.zeroValue21, t37 := Tryz.underlying146, a37 := Tryz.isAgg146, z37 := Tryz.sizeOf146, v37 := Tryz.zeroValue146, t46 := Tryz.underlying235, a46 := Tryz.isAgg235, z46 := Tryz.sizeOf235, v46 := Tryz.zeroValue235, t51 := Tryz.underlying284, a51 := Tryz.isAgg284, z51 := Tryz.sizeOf284, v51 := Tryz.zeroValue284, t53 := Tryz.underlying262, a53 := Tryz.isAgg262, z53 := Tryz.sizeOf262, v53 := Tryz.zeroValue262, t75 := Tryz.underlying33, a75 := Tryz.isAgg33, z75 := Tryz.sizeOf33, v75 := Tryz.zeroValue33, t76 := Tryz.underlying233, a76 := Tryz.isAgg233, z76 := Tryz.sizeOf233, v76 := Tryz.zeroValue233, t85 := Tryz.underlying270, a85 := Tryz.isAgg270, z85 := Tryz.sizeOf270, v85 := Tryz.zeroValue270, t127 := Tryz.underlying258, a127 := Tryz.isAgg258, z127 := Tryz.sizeOf258, v127 := Tryz.zeroValue258, t143 := Tryz.underlying299, a143 := Tryz.isAgg299, z143 := Tryz.sizeOf299, v143 := Tryz.zeroValue299, t145 := Tryz.underlying301, a145 := Tryz.isAgg301, z145 := Tryz.sizeOf301, v145 := Tryz.zeroValue301, t167 := Tryz.underlying269, a167 := Tryz.isAgg269, z167 := Tryz.sizeOf269, v167 := Tryz.zeroValue269, t168 := Tryz.underlying272, a168 := Tryz.isAgg272, z168 := Tryz.sizeOf272, v168 := Tryz.zeroValue272, t171 := Tryz.underlying261, a171 := Tryz.isAgg261, z171 := Tryz.sizeOf261, v171 := Tryz.zeroValue261, t173 := Tryz.underlying265, a173 := Tryz.isAgg265, z173 := Tryz.sizeOf265, v173 := Tryz.zeroValue265, t175 := Tryz.underlying288, a175 := Tryz.isAgg288, z175 := Tryz.sizeOf288, v175 := Tryz.zeroValue288, t210 := Tryz.underlying292, a210 := Tryz.isAgg292, z210 := Tryz.sizeOf292, v210 := Tryz.zeroValue292, t212 := Tryz.underlying283, a212 := Tryz.isAgg283, z212 := Tryz.sizeOf283, v212 := Tryz.zeroValue283, t213 := Tryz.underlying285, a213 := Tryz.isAgg285, z213 := Tryz.sizeOf285, t232 := Tryz.underlying302, a232 := Tryz.isAgg302, z232 := Tryz.sizeOf302, v232 := Tryz.zeroValue302, t233 := Tryz.underlying303, a233 := Tryz.isAgg303, z233 := Tryz.sizeOf303, v233 := Tryz.zeroValue303, g15 := by kernel_rfl, g16 := by kernel_rfl, g17 := by kernel_rfl, g18 := by kernel_rfl, g19 := by kernel_rfl }
end Go.Proofs
namespace Lg
open Go Go.Proofs Go.RowKit
variable [GLay]
theorem PW.str1' {s : CS} {b : ByteArray} {vs : List Value} (h : PW s [.str b] vs) : vs = [.string b] := by
  obtain ⟨h1, h2⟩ := h
  match vs, h1 with
  | [v], _ => rw [(h2 0 (.str b) v rfl rfl).inv_str]
theorem atoi_c (s : ByteArray) (n : Int) (σ : List AO) (hs : s.size ≤ 18) (h : Go.Lib.atoi s.data.toList = some n) : ACalls Tryz.prog 181 [.str s] σ (Ret (.tup [.int .i64 n, .nili]) σ) :=
  ACalls_below fun st cargs g hp => by
    rw [hp.str1']
    refine ⟨.tuple #[.int .i64 n, .nilIface], fun _ => ?_, (Any.strconv_Atoi Tryz.lays172 s n hs h st.w).mono ?_⟩
    rotate_left
    · rintro e w' ⟨rfl, t, rfl⟩
      exact ⟨rfl, rfl, rfl, rfl, by rw [Go.Lib.bytesWorld_size]; omega, fun j hj => Go.Lib.bytesWorld_at_old st.w _ t j hj⟩
    · exact .tup [.int .i64 n, .nili] [.int .i64 n, .nilIface] rfl (fun i c v h1 h2 => by
        match i, h1, h2 with
        | 0, h1, h2 => cases h1; cases h2; exact .int _ _
        | 1, h1, h2 => cases h1; cases h2; exact .nili)
end Lg
set_option maxRecDepth 20000
set_option maxHeartbeats 4000000
namespace Lg
open Go Go.Proofs Go.RowKit
variable [GLay] 
theorem small_c (e : BL) (σ : List AO) (hne : e ≠ []) (hd : aD (strip 45 e)) (hl : e.length ≤ 1000000) : ACalls Tryz.prog 179 [.str (ba e)] σ (Ret (.int .i64 (smallI e)) σ) := by
 refine ACalls_body Tryz.func179 rfl Tryz.ntmps179 (res1 Tryz.results179) (Nat.le_of_ble_eq_true rfl) (fun hcl hal => ?_)
 have hsl := strip_len 45 e
 have hcl2 := cutL_len (strip 45 e)
 have hbs : (ba (cutL (strip 45 e))).size = (cutL (strip 45 e)).length := ba_size _
 have hbe : (ba e).size = e.length := ba_size _
 have h1s : (ByteArray.mk #[48]).size = 1 := rfl
 have hbnd := smallN_bnd hd
 have hpos : 0 < e.length := List.length_pos_iff.2 hne
 have hb0 : bat (ba e) 0 = e.headD 0 := by rw [bat_ba]; cases e <;> rfl
 have hh := hd45_bat hne
 refine zw1 ?_
 refine zu1 ?_
 refine zt rfl (zc rfl (tTrimPre_c e 45 _ (by omega))) ?_
 refine zt rfl (zc rfl (tTrimL_c (strip 45 e) _ (by omega))) ?_
 refine zv1 ?_
 refine zw1 ?_
 refine AWp_join (ι := Unit) (fun w0 => True) (fun w0 => ⟨[], [(0, .str (ba e)), (4, .int .i64 (smallN (strip 45 e)))]⟩) (fun w0 => σ) ?_ (fun w0 hj => ?_)
 ·skip
  refine zw3 ?_
  refine AWp_cond rfl (fun h1 => ?_) (fun h1 => ?_)
  ·(try rw [h1]); replace h1 := zcl h1
   refine AWp_regL ?_
   refine zg2 ?_
   refine zt rfl (zc rfl (atoi_c _ (valL 0 (cutL (strip 45 e))) _ (by rw [ByteArray.size_append]; omega) (by rw [show (⟨#[48]⟩ : ByteArray) = ba [48] from rfl, ba_app, ba_toList]; exact atoi_val (aD_dw hd)))) ?_
   refine zv4 ?_
   refine ⟨(), trivial, ⟨rfl, rfl, ?_, trivial⟩, rfl⟩
   unfold smallN; first | (rw [if_pos (show ((strip 45 e).dropWhile (· == 48)).length < 15 by unfold cutL at *; omega)]; rfl) | (rw [if_neg (show ¬ ((strip 45 e).dropWhile (· == 48)).length < 15 by unfold cutL at *; omega)]; rfl)
  ·(try rw [h1]); replace h1 := zcl h1
   refine AWp_skip ?_
   refine ⟨(), trivial, ⟨rfl, rfl, ?_, trivial⟩, rfl⟩
   unfold smallN; first | (rw [if_pos (show ((strip 45 e).dropWhile (· == 48)).length < 15 by unfold cutL at *; omega)]; rfl) | (rw [if_neg (show ¬ ((strip 45 e).dropWhile (· == 48)).length < 15 by unfold cutL at *; omega)]; rfl)
 ·skip
  refine AWp_seq ?_
  refine zw3 ?_
  refine AWp_cond rfl (fun h2 => ?_) (fun h2 => ?_)
  ·(try rw [h2]); replace h2 := zcl h2
   refine zu1 ?_
   refine zt rfl (op_neg64 rfl rfl (by omega) (by omega)) ?_
   refine zv1 ?_
   refine zrt ?_
   refine ResQ_10 rfl hcl trivial (Ret_of ?_)
   congr 1; unfold smallI; rw [if_pos (hh.2 h2)]
  ·(try rw [h2]); replace h2 := zcl h2
   refine AWp_skip ?_
   refine zw2 ?_
   refine zrt ?_
   refine ResQ_10 rfl hcl trivial (Ret_of ?_)
   congr 1; unfold smallI; rw [if_neg (fun k => h2 (hh.1 k))]
end Lg
set_option maxRecDepth 20000
set_option maxHeartbeats 4000000
namespace Lg
open Go Go.Proofs Go.RowKit
variable [GLay] 
def cerr (k : Int) : AV := if k = 0 then .nili else .iface 95 (.int .i64 k)
theorem cerr_lt (m : Nat) (n : JNum) (k : Int) : AV.lt m (.tup [.agg (ncells n), cerr k]) := by
  unfold cerr; split <;> simp [AV.lt, AV.ltL, ncells]
theorem pparse_c (l : BL) (σ : List AO) (hl : l.length ≤ 1000) : ACalls Tryz.prog 155 [.str (ba l)] σ (Ret (.tup [.agg (ncells (pNum l).1), cerr (pNum l).2]) σ) := by
 refine ACalls_bodyC Tryz.func155 rfl Tryz.ntmps155 (by rw [Tryz.results155]; exact (.ck Tryz.isAgg24 Tryz.sizeOf24 (.t .nil))) (Nat.le_of_ble_eq_true rfl) (fun hcl hal => ?_)
 have hsl := strip_len 45 l
 have hpl := pParts_len (strip 45 l)
 have hg := fun h => gathered (m := strip 45 l) h false
 have hz1 : (ba (pParts (strip 45 l)).1).size = _ := ba_size _
 have hz2 : (ba (pParts (strip 45 l)).2.1).size = _ := ba_size _
 have hz3 : (ba (pAll l)).size = _ := ba_size _
 have hz4 : (ba (cutR (pAll l))).size = _ := ba_size _
 have hc1 : (pAll l).length ≤ ((pParts (strip 45 l)).1 ++ (pParts (strip 45 l)).2.1).length := cutL_len _
 rw [List.length_append] at hc1
 have hc2 := cutR_len (pAll l)
 refine zw2 ?_
 refine zu1 ?_
 refine zt rfl (zc rfl (tTrimPre_c l 45 _ (by omega))) ?_
 rw [show (45 : UInt8).toNat = 45 from rfl]
 refine zv1 ?_
 refine zu1 ?_
 refine zt rfl (zc rfl (parts_c (strip 45 l) _ (by omega))) ?_
 refine zv9 ?_
 refine AWp_seq ?_
 refine zw2 ?_
 refine AWp_cond rfl (fun h1 => ?_) (fun h1 => ?_)
 ·(try rw [h1]); replace h1 := zcl h1
  have hok : (pParts (strip 45 l)).2.2.2 = false := by simpa using h1
  refine zw4 ?_
  refine zrt ?_
  rw [pNum_bad hok]; exact RQ_ret (rkvs_cons (rkv_ck rfl rfl rfl) (rkvs_cons (rkv_t rfl) rfl)) hcl (cerr_lt _ ({} : JNum) 1) (Ret_of rfl)
 ·(try rw [h1]); replace h1 := zcl h1
  have hok : (pParts (strip 45 l)).2.2.2 = true := by simpa using h1
  obtain ⟨_, _, _, hg1, hg2, _, _, _⟩ := hg hok
  have hsb := smallI_bnd hg1
  refine AWp_skip ?_
  refine zu3 ?_
  simp only [ba_app]
  refine zt rfl (zc rfl (tTrimL_c ((pParts (strip 45 l)).1 ++ (pParts (strip 45 l)).2.1) _ (by rw [List.length_append]; omega))) ?_
  rw [show cutL ((pParts (strip 45 l)).1 ++ (pParts (strip 45 l)).2.1) = pAll l from rfl]
  refine zv1 ?_
  refine AWp_seq ?_
  refine zw2 ?_
  refine AWp_cond rfl (fun h2 => ?_) (fun h2 => ?_)
  ·(try rw [h2]); replace h2 := zcl h2
   refine zw3 ?_
   refine zrt ?_
   rw [pNum_zero hok (ba_nil.1 h2)]; exact RQ_ret (rkvs_cons (rkv_ck rfl rfl rfl) (rkvs_cons (rkv_t rfl) rfl)) hcl (cerr_lt _ ({} : JNum) 0) (Ret_of rfl)
  ·(try rw [h2]); replace h2 := zcl h2
   refine AWp_skip ?_
   refine zu1 ?_
   refine zt rfl (zc rfl (tTrimR_c (pAll l) _ (by omega))) ?_
   refine zv1 ?_
   refine zu3 ?_
   rw [hng l]
   refine zg2 ?_
   refine zt rfl (zc rfl (small_c (pParts (strip 45 l)).2.2.1 _ hg2 hg1 (by omega))) ?_
   refine zg10 ?_
   refine zg2 ?_
   refine zon ?_
   refine AWp_seq ?_
   refine zu4 ?_
   refine zsp 53 rfl (fun h3 => ?_) fun h3 => ?_
   ·rw [h3]; replace h3 := zcl h3
    refine zv9 ?_
    refine AWp_condT rfl ?_
    refine zw4 ?_
    refine zrt ?_
    rw [pNum_large hok (fun k => h2 (ba_nil.2 k)) (.inl (by omega))]; exact RQ_ret (rkvs_cons (rkv_ck rfl rfl rfl) (rkvs_cons (rkv_t rfl) rfl)) hcl (cerr_lt _ ({} : JNum) 5) (Ret_of rfl)
   ·rw [h3]; replace h3 := zcl h3
    refine zg5 ?_
    refine zsp 58 rfl (fun h4 => ?_) fun h4 => ?_
    ·rw [h4]; replace h4 := zcl h4
     refine zv4 ?_
     refine AWp_condT rfl ?_
     refine zw4 ?_
     refine zrt ?_
     rw [pNum_large hok (fun k => h2 (ba_nil.2 k)) (.inr (.inl (by unfold pX; omega)))]; exact RQ_ret (rkvs_cons (rkv_ck rfl rfl rfl) (rkvs_cons (rkv_t rfl) rfl)) hcl (cerr_lt _ ({} : JNum) 5) (Ret_of rfl)
    ·rw [h4]; replace h4 := zcl h4
     refine zv4 ?_
     refine AWp_cond rfl (fun h5 => ?_) (fun h5 => ?_)
     ·(try rw [h5]); replace h5 := zcl h5
      refine zw4 ?_
      refine zrt ?_
      rw [pNum_large hok (fun k => h2 (ba_nil.2 k)) (.inr (.inr (by unfold pX; omega)))]; exact RQ_ret (rkvs_cons (rkv_ck rfl rfl rfl) (rkvs_cons (rkv_t rfl) rfl)) hcl (cerr_lt _ ({} : JNum) 5) (Ret_of rfl)
     ·(try rw [h5]); replace h5 := zcl h5
      refine AWp_skip ?_
      refine zw3 ?_
      refine zrt ?_
      rw [pNum_some hok (fun k => h2 (ba_nil.2 k)) (by rw [pX_eq]; omega), pX_eq]; exact RQ_ret (rkvs_cons (rkv_ck rfl rfl rfl) (rkvs_cons (rkv_t rfl) rfl)) hcl (cerr_lt _ ⟨_, _, _⟩ 0) (Ret_of rfl)
end Lg
set_option maxRecDepth 20000
set_option maxHeartbeats 4000000
namespace Go.Proofs
open Go.Shelf
def Tryz.laysM171_ren : Go.Shelf.Ren := ⟨fun | 171 => 148 | 243 => 174 | 246 => 198 | 283 => 220 | 284 => 221 | 285 => 222 | 286 => 223 | 129 => 240 | 317 => 239 | 318 => 241 | 319 => 242 | 320 => 243 | 337 => 251 | 338 => 252 | n => n, fun | 3 => 3 | 9 => 9 | 2 => 2 | 4 => 4 | 171 => 261 | 0 => 0 | 53 => 262 | 37 => 146 | 5 => 5 | 173 => 265 | 212 => 283 | 51 => 284 | 20 => 20 | 213 => 285 | 46 => 235 | 232 => 302 | 233 => 303 | n => n, fun | 17 => 4 | 18 => 7 | 19 => 8 | n => n⟩
theorem Tryz.laysM171 : Go.Proofs.LaysM.n171 Tryz.prog Tryz.laysM171_ren := {
  mixed := by kernel_rfl, f129 := Tryz.func240.trans (congrArg some (by kernel_rfl)), f171 := Tryz.func148.trans (congrArg some (by kernel_rfl)), f243 := Tryz.func174.trans (congrArg some (by kernel_rfl)), f246 := Tryz.func198.trans (congrArg some (by kernel_rfl)), f283 := Tryz.func220.trans (congrArg some (by kernel_rfl)), f284 := Tryz.func221.trans (congrArg some (by kernel_rfl)), f285 := Tryz.func222.trans (congrArg some (by kernel_rfl)), f286 := Tryz.func223.trans (congrArg some (by kernel_rfl)), f317 := Tryz.func239.trans (congrArg some (by kernel_rfl)), f318 := Tryz.func241.trans (congrArg some (by kernel_rfl)), f319 := Tryz.func242.trans (congrArg some (by kernel_rfl)), f320 := Tryz.func243.trans (congrArg some (by kernel_rfl)), f337 := Tryz.func251.trans (congrArg some (by kernel_rfl)), f338 := Tryz.func252.trans (congrArg some (by kernel_rfl)), t0 := Tryz.underlying0, a0 := Tryz.isAgg0, z0 := Tryz.sizeOf0, v0 := Tryz.zeroValue0, t2 := Tryz.underlying2, a2 := Tryz.isAgg2, z2 := Tryz.sizeOf2, v2 := Tryz.zeroValue2, t3 := Tryz.underlying3, a3 := Tryz.isAgg3, z3 := Tryz.sizeOf3, v3 := Tryz.zeroValue3, t4 := Tryz.underlying4, a4 := Tryz.isAgg4, z4 := Tryz.sizeOf4, v4 := Tryz.zeroValue4, t5 := Tryz.underlying5, a5 := Tryz.isAgg5, z5 := Tryz.sizeOf5, v5 := Tryz.zeroValue5, t9 := Tryz.underlying9, a9 := Tryz.isAgg9, z9 := Tryz.sizeOf9, v9 := Tryz.zeroValue9, t20 := Tryz.underlying20, a20 := Tryz.isAgg20, z20 := Tryz.sizeOf20, v20 := Tryz.zeroValue20, t37 := Tryz.underlying146, a37 := Tryz.isAgg146, z37 := Tryz.sizeOf146, v37 := Tryz.zeroValue146, t46 := Tryz.underlying235, a46 := Tryz.isAgg235, z46 := Tryz.sizeOf235, v46 := Tryz.zeroValue235, t51 := Tryz.underlying284, a51 := Tryz.isAgg284, z51 := Tryz.sizeOf284, v51 := Tryz.zeroValue284, t53 := Tryz.underlying262, a53 := Tryz.isAgg262, z53 := Tryz.sizeOf262, v53 := Tryz.zeroValue262, t171 := Tryz.underlying261, a171 := Tryz.isAgg261, z171 := Tryz.sizeOf261, v171 := Tryz.zeroValue261, t173 := Tryz.underlying265, a173 := Tryz.isAgg265, z173 := Tryz.sizeOf265, v173 := Tryz.zeroValue265, t212 := Tryz.underlying283, a212 := Tryz.isAgg283, z212 := Tryz.sizeOf283, v212 := Tryz.zeroValue283, t213 := Tryz.underlying285, a213 := Tryz.isAgg285, z213 := Tryz.sizeOf285, t232 := Tryz.underlying302, a232 := Tryz.isAgg302, z232 := Tryz.sizeOf302, v232 := Tryz.zeroValue302, t233 := Tryz.underlying303, a233 := Tryz.isAgg303, z233 := Tryz.sizeOf303, v233 := Tryz.zeroValue303, g17 := by kernel_rfl, g18 := by kernel_rfl, g19 := by kernel_rfl, i0 := by kernel_rfl, i2 := by kernel_rfl, i3 := by kernel_rfl, i4 := by kernel_rfl, i5 := by kernel_rfl, i9 := by kernel_rfl, i20 := by kernel_rfl, i37 := by kernel_rfl, i46 := by kernel_rfl, i51 := by kernel_rfl, i53 := by kernel_rfl, i171 := by kernel_rfl, i173 := by kernel_rfl, i212 := by kernel_rfl, i232 := by kernel_rfl, i233 := by kernel_rfl, m17 := by kernel_rfl, m18 := by kernel_rfl, m19 := by kernel_rfl }
end Go.Proofs
namespace Lg
open Go Go.Proofs Go.RowKit
class S10 [GLay] : Prop where
  tabs : ∀ w : World, Laid w → Go.Lib.TabIs Tryz.prog w "internal/strconv.uint64pow10" .u64 Go.Lib.pow10Tab
variable [GLay]
theorem PW.int1 {s : CS} {k : IntKind} {n : Int} {vs : List Value} (h : PW s [.int k n] vs) : vs = [.int k n] := by
  obtain ⟨h1, h2⟩ := h
  match vs, h1 with
  | [v], _ => rw [(h2 0 (.int k n) v rfl rfl).inv_int]
variable [S10]
theorem itoa_c (n : Int) (σ : List AO) (h0 : -9223372036854775808 ≤ n) (h1 : n ≤ 9223372036854775807) : ACalls Tryz.prog 148 [.int .i64 n] σ (Ret (.str (itoaB n)) σ) :=
  ACalls_below fun st cargs g hp => by
    rw [hp.int1]
    refine ⟨.string ⟨(Go.Lib.itoa n).toArray⟩, fun _ => ?_, (Any.strconv_Itoa Tryz.laysM171 n h0 h1 st.w (S10.tabs _ g.laid)).mono ?_⟩
    rotate_left
    · rintro e w' ⟨rfl, k, os, rfl⟩
      exact ⟨rfl, rfl, rfl, rfl, by simp [Go.Sort.grow], fun i hi => by
        show ((st.w.drewN k).heap ++ os)[i]? = _
        rw [Array.getElem?_append_left (by show i < st.w.heap.size; omega)]
        rfl⟩
    · exact .str _
end Lg
namespace Lg
open Go Go.Proofs Go.RowKit
theorem S10.of [g : GLay] {W : World} (hT : Go.Lib.TabIs Tryz.prog W "internal/strconv.uint64pow10" .u64 Go.Lib.pow10Tab) (hg : ∀ b, g.f b = W.heap[b]?) : S10 := ⟨fun w hw => by
  unfold Go.Lib.TabIs World.var? at *
  cases hn : Tryz.prog.globalNamed "internal/strconv.uint64pow10" with
  | none => rw [hn] at hT; simp at hT
  | some b =>
    rw [hn] at hT
    simp only [Option.bind_some] at *
    cases hb : W.heap[b]? with
    | none => rw [hb] at hT; simp at hT
    | some o => rw [hb] at hT; rw [hw b o ((hg b).trans hb)]; exact hT⟩
end Lg
set_option maxRecDepth 20000
set_option maxHeartbeats 4000000
namespace Lg
open Go Go.Proofs Go.RowKit
variable [GLay] [S10]
theorem pof_c (k : Int) (σ : List AO) (h0 : 0 ≤ k) (h1 : k ≤ 1000000000000) : ACalls Tryz.prog 123 [.int .i64 k] σ (Ret (.agg (ncells (pNum (Lib.itoa k)).1)) σ) := by
 refine ACalls_bodyC Tryz.func123 rfl Tryz.ntmps123 (by rw [Tryz.results123]; exact (.ck Tryz.isAgg24 Tryz.sizeOf24 .nil)) (Nat.le_of_ble_eq_true rfl) (fun hcl hal => ?_)
 have hsz := itoa_size (n := k) (by omega) (by omega)
 refine zw1 ?_
 refine zu1 ?_
 refine zt rfl (zc rfl (itoa_c k _ (by omega) (by omega))) ?_
 refine zt rfl (zc rfl (pparse_c (Lib.itoa k) _ (by rw [← ba_size]; exact Nat.le_trans hsz (by omega)))) ?_
 refine zv6 ?_
 refine zw2 ?_
 refine zrt ?_
 exact RQ_ret (rkvs_cons (rkv_ck rfl rfl rfl) rfl) hcl (by simp [rks, AV.lt, AV.ltL, ofConst1, ncells]) (Ret_of rfl)

end Lg
namespace Lg
open Go
theorem kZ_get {l : List JV} {i : Nat} {q : ByteArray × JV} (h : (kZ l)[i]? = some q) : l[i]? = some q.2 := by
  unfold kZ at h
  rw [List.getElem?_map, List.getElem?_zipIdx] at h
  cases hx : l[i]? with
  | none => rw [hx] at h; simp at h
  | some x => rw [hx] at h; simp at h; rw [← h]
theorem kids_jb {n : ByteArray} {v : JV} (hv : jb v) {i : Nat} {q : ByteArray × JV} (h : (kidsM n v)[i]? = some q) : jb q.2 ∧ jsize q.2 ≤ jsize v := by
  obtain ⟨_, _, _, _, h5, h6⟩ := (jb_eq v).1 hv
  have hs := jsize_eq v
  have hl := lsize_nn v.l
  have hm := msize_nn v.m
  unfold kidsM at h
  split at h
  · have hi := (List.getElem?_eq_some_iff.1 h).1
    have : i = 0 := by simp at hi; exact hi
    subst this
    cases h
    exact ⟨hv, by simp⟩
  · split at h
    · have := msize_mem h
      exact ⟨(mb_get h6 h).2, by omega⟩
    · split at h
      · have hx := kZ_get (l := v.l) h
        have := lsize_mem hx
        exact ⟨lb_get h5 hx, by omega⟩
      · simp at h
theorem kids_len {n : ByteArray} {v : JV} (hv : jb v) : (kidsM n v).length ≤ 1000000 := by
  obtain ⟨_, _, h3, h4, _, _⟩ := (jb_eq v).1 hv
  unfold kidsM
  split
  · simp
  · split
    · exact h4
    · split
      · have := kZ_len v.l; unfold kZ at this; omega
      · simp
theorem kids_one {n : ByteArray} {v : JV} (h : rk n = 8) : (kidsM n v).length = 1 := by
  unfold kidsM; rw [if_pos h]; rfl
end Lg
namespace Lg
open Go
variable {op : Int} {x v : JV} {nm : BL} {r : List BL}
variable {last : Bool} {k : Nat}
section
variable {y a : JV} {l : List JV} {i : Nat}
end
end Lg
namespace Lg
end Lg
namespace Lg
open Go
abbrev BJ := ByteArray × JV
variable {last : Bool} {op : Int} {key : ByteArray} {x : JV} {f : JV → JV} {m : List BJ} {i : Nat} {put : Bool} {q : BJ}
end Lg
namespace Lg
end Lg
namespace Lg
open Go
section
variable [GLay]
end
end Lg
namespace Lg
open Go
theorem vcells_ones [GLay] (v : JV) : ones (vcells v) = true := by rw [vcells_eq]; rfl
theorem lflat_ones [GLay] (l : List JV) : ones (lcells l).flatten = true := by
  rw [ones_iff]; intro a ha
  obtain ⟨e, he, h⟩ := List.mem_flatten.1 ha
  rw [lcells_eq] at he
  obtain ⟨x, _, rfl⟩ := List.mem_map.1 he
  exact (ones_iff _).1 (vcells_ones x) a h
end Lg
namespace Lg
open Go Go.RowKit
variable [GLay]
variable {P : Program} {N : Nat} {e : Env} {σ l : List AO} {Q : QA} {o : Oper}
end Lg
namespace Lg
open Go Go.RowKit
variable [GLay]
variable {P : Program} {N : Nat} {e : Env} {σ l : List AO} {Q : QA} {o : Oper}
end Lg
namespace Lg
open Go Go.RowKit
variable [GLay]
variable {P : Program} {N : Nat} {e : Env} {σ l : List AO} {Q : QA} {o : Oper} {p : Nat} {x y z : AO} {f : FuncId} {args : List AV} {v : AV}
section
variable {T K E : TypeId} {a b c : Operand} {m : List (Int × AV)} {k : Int} {zv : Value}
end
end Lg
namespace Lg
open Go Go.RowKit
variable [GLay]
section
variable {P : Program} {σ : List AO} {e : Env} {o : Oper}
end
end Lg
namespace Lg
open Go Go.RowKit
variable [GLay]
end Lg
namespace Lg
open Go
variable {sz : Nat} {rows : List (List AV)} {row : List AV} {i : Nat}
end Lg
namespace Lg
open Go
section
variable [GLay] {σ : List AO} {p : Nat} {X y z : AO}
end
variable {sz : Nat} {rows : List (List AV)} {row : List AV} {i : Nat}
end Lg
namespace Lg
open Go
end Lg
namespace Lg
open Go
end Lg
namespace Lg
end Lg
namespace Lg
open Go
end Lg
namespace Lg
open Go
end Lg
namespace Lg
open Go
def msorted (m : List BJ) : Prop := m.Pairwise fun p q => blt p.1 q.1 = true
theorem blt_irr [GLay] (a : ByteArray) : blt a a = false := by
  cases h : blt a a with
  | false => rfl
  | true => have := blt_le (a := a) (b := a) (by simp [h]); rw [h] at this; cases this
end Lg
namespace Lg
open Go
end Lg
namespace Lg
open Go
end Lg
namespace Lg
open Go
end Lg
namespace Lg
open Go
variable {g : JV → JV × Bool} {nm : BL} {r : List BL} {v : JV}
end Lg
namespace Lg
open Go
theorem may_ms [GLay] {v : JV} (h : jmay v) : msorted v.m := by
  have hm := ((jmay_eq v).1 h).2.1
  refine List.pairwise_iff_getElem.2 fun i j hi hj hij => ?_
  induction j with
  | zero => omega
  | succ j ih =>
    have hs := ((hm (j + 1) v.m[j + 1] hj (List.getElem?_eq_getElem hj)).1).2 v.m[j] (by omega) (by rw [Nat.add_sub_cancel]; exact List.getElem?_eq_getElem (by omega))
    by_cases e : i = j
    · subst e; exact hs
    · exact blt_trans (ih (by omega) (by omega)) hs
inductive jst : JV → Prop where
  | mk (k : Int) (b : Bool) (n : JNum) (s : ByteArray) (l : List JV) (m : List BJ) (h4 : ¬ k = 4 → l = []) (h5 : ¬ k = 5 → m = []) (hs : msorted m) (hl : ∀ x ∈ l, jst x) (hm : ∀ q ∈ m, jst q.2) : jst (.mk k b n s l m)
theorem st_eq (v : JV) : jst v ↔ (¬ v.kind = 4 → v.l = []) ∧ (¬ v.kind = 5 → v.m = []) ∧ msorted v.m ∧ (∀ x ∈ v.l, jst x) ∧ (∀ q ∈ v.m, jst q.2) := by
  constructor
  · intro h
    cases h with
    | mk k b n s l m h4 h5 hs hl hm => exact ⟨h4, h5, hs, hl, hm⟩
  · intro h
    cases v with
    | mk k b n s l m => exact .mk k b n s l m h.1 h.2.1 h.2.2.1 h.2.2.2.1 h.2.2.2.2
theorem st_ms {v : JV} (h : jst v) : msorted v.m := ((st_eq v).1 h).2.2.1
theorem st_get {v : JV} (h : jst v) {i : Nat} {x : JV} (hx : v.l[i]? = some x) : jst x := ((st_eq v).1 h).2.2.2.1 x (List.mem_of_getElem? hx)
theorem st_mget {v : JV} (h : jst v) {i : Nat} {q : BJ} (hq : v.m[i]? = some q) : jst q.2 := ((st_eq v).1 h).2.2.2.2 q (List.mem_of_getElem? hq)
theorem may_st0 [GLay] : ∀ (n : Nat) (v : JV), (jsize v).toNat ≤ n → jmay v → jst v
  | 0, v, h, _ => by have := jsize_pos v; omega
  | n + 1, v, h, hm => by
    have h1 := jsize_eq v
    have h2 := lsize_nn v.l
    have h3 := msize_nn v.m
    rw [st_eq]
    refine ⟨may_nol hm, may_nom hm, may_ms hm, fun x hx => ?_, fun q hq => ?_⟩
    · obtain ⟨i, hi⟩ := List.getElem?_of_mem hx
      have := lsize_mem hi
      have := jsize_pos x
      exact may_st0 n x (by omega) (may_get hm hi)
    · obtain ⟨i, hi⟩ := List.getElem?_of_mem hq
      have := msize_mem hi
      have := jsize_pos q.2
      exact may_st0 n q.2 (by omega) (may_mget hm hi)
theorem may_st [GLay] {v : JV} (h : jmay v) : jst v := may_st0 _ v (Nat.le_refl _) h
end Lg
namespace Lg
open Go
section
variable {last : Bool} {op : Int} {k : Nat} {x y : JV} {l : List JV}
end
section
variable [GLay] {last : Bool} {op : Int} {key : ByteArray} {x : JV} {f : JV → JV}
theorem blt_ne {a b : ByteArray} (h : blt a b = true) : ¬ a = b := fun e => by subst e; rw [blt_irr] at h; cases h
end
end Lg
namespace Lg
open Go
variable [GLay]
variable {op : Int} {x : JV} {g : JV → JV × Bool} {r0 : List BL}
end Lg
namespace Lg
open Go
variable [GLay]
end Lg
namespace Lg
end Lg
namespace Lg
open Go
end Lg
namespace Lg
open Go
section
variable [GLay] {key : ByteArray} {x y : JV}
end
section
variable [GLay] {nm : BL} {r : List BL} {v : JV}
end
section
variable [GLay] {g : JV → JV × Bool}
end
section
variable [GLay] {nm : BL} {x u : JV}
theorem itoa_ix {n : Nat} (h : n ≤ 1000000) : ¬ jixB (Lib.itoa (n : Int)) ∧ valL 0 (Lib.itoa (n : Int)) = n := by
  rw [itoa_pos (by omega), Int.toNat_natCast]
  obtain ⟨h1, h2, h3, h4⟩ := dd_facts n
  refine ⟨?_, h2⟩
  have hr : runl (ba (Lib.decDigits n)) 0 = (Lib.decDigits n).length := aD_run.1 h1
  have hl := dd_len n 6 (by omega)
  rintro (e | e | ⟨e1, e2⟩ | e)
  · exact h3 e
  · exact e hr
  · have hn : ¬ n < 10 := fun hn => by rw [dd_small hn] at e1; simp at e1
    have := h4 (by omega)
    apply this
    cases hd : Lib.decDigits n with
    | nil => exact absurd hd h3
    | cons c r =>
      rw [hd] at e2
      have : bat (ba (c :: r)) 0 = c := by rw [bat_ba]; rfl
      rw [this] at e2
      have : c = 48 := UInt8.toNat_inj.1 e2
      rw [this]; rfl
  · omega
end
section
variable [GLay] {x z v : JV} {l0 : List BL} {nm : BL}
end
end Lg
namespace Lg
open Go
end Lg
namespace Lg
open Go
section
variable [GLay] {g : JV → JV × Bool} {C : Int}
end
structure OPB (o : JOp) : Prop where
  lo : 1 ≤ o.op
  hi : o.op ≤ 6
  jb : Lg.jb o.v
  st : jst o.v
  sz : jsize o.v ≤ 3000
  pa : o.pa.length ≤ 2000000
  fr : o.fr.length ≤ 2000000
  pan : ∀ n ∈ o.pa, n.length ≤ 1000000
  frn : ∀ n ∈ o.fr, n.length ≤ 1000000
section
variable [GLay] {v : JV} {o : JOp}
theorem shw_inj {a b : List BL} : ba (shw a) = ba (shw b) ↔ a = b := by
  constructor
  · intro h
    have h1 := congrArg (fun x => x.data.toList) h
    simp only [ba_toList] at h1
    have h2 := congrArg pN h1
    rwa [(pN_shw a).2, (pN_shw b).2] at h2
  · intro h; rw [h]
end
end Lg
namespace Lg
open Go Go.RowKit
variable [GLay]
section
variable {P : Program} {N : Nat} {ops : Array Oper} {tb : Array Nat} {QR : Env → List AO → Prop} {X : AV → List AO → Prop} {i : Nat} {e : Env} {o : Oper} {σ : List AO} {past : List (Nat × List AO)} {held : List (Nat × (List AO → Prop))}
end
end Lg
namespace Lg
open Go Go.RowKit
variable [GLay]
end Lg
namespace Lg
open Go
structure JKid where
  key : ByteArray
  node : Int
structure JKey where
  name : ByteArray
  v : JV
  kids : List JKid
structure JNode where
  path : ByteArray
  all : Bool
  pass : Bool
  keys : List JKey
def kidc (k : JKid) : List AV := [.str k.key, .int .i64 k.node]
def kidr (l : List JKid) : List (List AV) := l.map kidc
def keyc (k : JKey) : List AV := .str k.name :: (vcells k.v ++ [.sl false 2 (kidr k.kids)])
def keyr (l : List JKey) : List (List AV) := l.map keyc
def nodec (n : JNode) : List AV := [.str n.path, .bool n.all, .bool n.pass, .sl false 10 (keyr n.keys)]
def noder (l : List JNode) : List (List AV) := l.map nodec
theorem keyc_eq (k : JKey) : keyc k = [.str k.name, .int .i64 k.v.kind, .bool k.v.b, .bool k.v.n.neg, .str k.v.n.digits, .int .i64 k.v.n.exp, .str k.v.s, .sl false 8 (lcells k.v.l), .sl false 9 (mcells k.v.m), .sl false 2 (kidr k.kids)] := by
  rw [keyc, vcells_eq]; rfl
theorem kidr_len (l : List JKid) : (kidr l).length = l.length := by simp [kidr]
theorem keyr_len (l : List JKey) : (keyr l).length = l.length := by simp [keyr]
theorem noder_len (l : List JNode) : (noder l).length = l.length := by simp [noder]
theorem kidr_el (l : List JKid) : ∀ r ∈ kidr l, r.length = 2 := by
  intro r hr; simp [kidr] at hr; obtain ⟨x, _, rfl⟩ := hr; rfl
theorem keyr_el (l : List JKey) : ∀ r ∈ keyr l, r.length = 10 := by
  intro r hr; simp [keyr] at hr; obtain ⟨x, _, rfl⟩ := hr; rw [keyc_eq]; rfl
theorem noder_el (l : List JNode) : ∀ r ∈ noder l, r.length = 4 := by
  intro r hr; simp [noder] at hr; obtain ⟨x, _, rfl⟩ := hr; rfl
theorem noder_get {l : List JNode} {i : Nat} {x : JNode} (h : l[i]? = some x) : (noder l)[i]? = some (nodec x) := by simp [noder, h]
theorem keyr_get {l : List JKey} {i : Nat} {x : JKey} (h : l[i]? = some x) : (keyr l)[i]? = some (keyc x) := by simp [keyr, h]
theorem kidr_get {l : List JKid} {i : Nat} {x : JKid} (h : l[i]? = some x) : (kidr l)[i]? = some (kidc x) := by simp [kidr, h]
section
variable [GLay]
theorem dflat_len (l : List JKid) : (kidr l).flatten.length = l.length * 2 := by rw [flatten_len (kidr_el l), kidr_len]
theorem yflat_len (l : List JKey) : (keyr l).flatten.length = l.length * 10 := by rw [flatten_len (keyr_el l), keyr_len]
theorem nflat_len (l : List JNode) : (noder l).flatten.length = l.length * 4 := by rw [flatten_len (noder_el l), noder_len]
theorem kidr_snoc (l : List JKid) (x : JKid) : (kidr (l ++ [x])).flatten = (kidr l).flatten ++ kidc x := by simp [kidr]
theorem keyr_snoc (l : List JKey) (x : JKey) : (keyr (l ++ [x])).flatten = (keyr l).flatten ++ keyc x := by simp [keyr]
theorem noder_snoc (l : List JNode) (x : JNode) : (noder (l ++ [x])).flatten = (noder l).flatten ++ nodec x := by simp [noder]
@[simp] theorem kidr_lt (n : Nat) (l : List JKid) : AV.ltLL n (kidr l) := by
  rw [AV.ltLL_iff]; intro e he; simp [kidr] at he; obtain ⟨x, _, rfl⟩ := he; exact ⟨trivial, trivial, trivial⟩
@[simp] theorem keyc_lt (n : Nat) (k : JKey) : AV.ltL n (keyc k) := by
  rw [keyc_eq]; exact ⟨trivial, trivial, trivial, trivial, trivial, trivial, trivial, lcells_lt n _, mcells_lt n _, kidr_lt n _, trivial⟩
@[simp] theorem keyr_lt (n : Nat) (l : List JKey) : AV.ltLL n (keyr l) := by
  rw [AV.ltLL_iff]; intro e he; simp [keyr] at he; obtain ⟨x, _, rfl⟩ := he; exact keyc_lt n x
@[simp] theorem noder_lt (n : Nat) (l : List JNode) : AV.ltLL n (noder l) := by
  rw [AV.ltLL_iff]; intro e he; simp [noder] at he; obtain ⟨x, _, rfl⟩ := he; exact ⟨trivial, trivial, trivial, keyr_lt n _, trivial⟩
theorem fl_lt {n : Nat} {es : List (List AV)} (h : AV.ltLL n es) : AV.ltL n es.flatten := by
  rw [AV.ltL_iff]; intro a ha
  obtain ⟨e, he, h1⟩ := List.mem_flatten.1 ha
  exact (AV.ltL_iff _ _).1 ((AV.ltLL_iff _ _).1 h e he) a h1
@[simp] theorem dflat_lt (n : Nat) (l : List JKid) : AV.ltL n (kidr l).flatten := fl_lt (kidr_lt n l)
@[simp] theorem yflat_lt (n : Nat) (l : List JKey) : AV.ltL n (keyr l).flatten := fl_lt (keyr_lt n l)
@[simp] theorem nflat_lt (n : Nat) (l : List JNode) : AV.ltL n (noder l).flatten := fl_lt (noder_lt n l)
end
structure MS where
  l : List JNode
  bad : Int
  path : ByteArray
def pth (n : ByteArray) : ByteArray := ba (shw [n.data.toList])
def rkids (f : ByteArray → JV → MS → MS) (under : ByteArray) (single : Bool) : List BJ → MS → List JKid × MS
  | [], m => ([], m)
  | (k, x) :: r, m => (⟨k, m.l.length⟩ :: (rkids f under single r (f (if single = true then under else under ++ pth k) x m)).1, (rkids f under single r (f (if single = true then under else under ++ pth k) x m)).2)
noncomputable def rmems (f : ByteArray → JV → MS → MS) (path : ByteArray) : List BJ → List JKey → MS → Bool × List JKey × MS
  | [], ks, m => (false, ks, m)
  | (nm, x) :: r, ks, m => if ¬ m.bad = 0 then (false, ks, m) else if ¬ rShape nm x = 0 then (true, ks, ⟨m.l, rShape nm x, path ++ pth nm⟩) else
    rmems f path r (ks ++ [⟨nm, x, (rkids f (path ++ pth nm) (decide (rk nm = 8)) (kidsM nm x) m).1⟩]) (rkids f (path ++ pth nm) (decide (rk nm = 8)) (kidsM nm x) m).2
def setk (l : List JNode) (i : Nat) (ks : List JKey) : List JNode := l.modify i fun n => ⟨n.path, n.all, n.pass, ks⟩
def m1 (m : MS) (path : ByteArray) (v : JV) : MS := ⟨m.l ++ [⟨path, decide (v.kind = 1), v.b, []⟩], m.bad, m.path⟩
noncomputable def rnd : Nat → ByteArray → JV → MS → MS
  | 0, _, _, m => m
  | n + 1, path, v, m => if ¬ m.bad = 0 then m else if m.l.length = 200 then ⟨m.l, 5, path⟩ else
    if (rmems (rnd n) path v.m [] (m1 m path v)).1 = true then (rmems (rnd n) path v.m [] (m1 m path v)).2.2 else
      ⟨setk (rmems (rnd n) path v.m [] (m1 m path v)).2.2.l m.l.length (rmems (rnd n) path v.m [] (m1 m path v)).2.1, (rmems (rnd n) path v.m [] (m1 m path v)).2.2.bad, (rmems (rnd n) path v.m [] (m1 m path v)).2.2.path⟩
theorem rnd_b {n : Nat} {path : ByteArray} {v : JV} {m : MS} (h : ¬ m.bad = 0) : rnd (n + 1) path v m = m := by rw [rnd, if_pos h]
theorem rnd_m {n : Nat} {path : ByteArray} {v : JV} {m : MS} (h : m.bad = 0) (hl : m.l.length = 200) : rnd (n + 1) path v m = ⟨m.l, 5, path⟩ := by rw [rnd, if_neg (fun z => z h), if_pos hl]
theorem rnd_t {n : Nat} {path : ByteArray} {v : JV} {m : MS} {ks : List JKey} {m' : MS} (h : m.bad = 0) (hl : ¬ m.l.length = 200) (hr : rmems (rnd n) path v.m [] (m1 m path v) = (true, ks, m')) : rnd (n + 1) path v m = m' := by rw [rnd, if_neg (fun z => z h), if_neg hl, hr, if_pos rfl]
theorem rnd_f {n : Nat} {path : ByteArray} {v : JV} {m : MS} {ks : List JKey} {m' : MS} (h : m.bad = 0) (hl : ¬ m.l.length = 200) (hr : rmems (rnd n) path v.m [] (m1 m path v) = (false, ks, m')) : rnd (n + 1) path v m = ⟨setk m'.l m.l.length ks, m'.bad, m'.path⟩ := by rw [rnd, if_neg (fun z => z h), if_neg hl, hr, if_neg (fun z => by cases z)]
theorem rmems_e {f : ByteArray → JV → MS → MS} {path : ByteArray} {r : List BJ} {ks : List JKey} {m : MS} (h : r = [] ∨ ¬ m.bad = 0) : rmems f path r ks m = (false, ks, m) := by
  cases r with
  | nil => rfl
  | cons q r => obtain ⟨a, b⟩ := q; rw [rmems, if_pos (h.resolve_left (by simp))]
theorem rmems_s {f : ByteArray → JV → MS → MS} {path nm : ByteArray} {x : JV} {r : List BJ} {ks : List JKey} {m : MS} (h : m.bad = 0) (hs : ¬ rShape nm x = 0) : rmems f path ((nm, x) :: r) ks m = (true, ks, ⟨m.l, rShape nm x, path ++ pth nm⟩) := by rw [rmems, if_neg (fun z => z h), if_pos hs]
theorem rmems_k {f : ByteArray → JV → MS → MS} {path nm : ByteArray} {x : JV} {r : List BJ} {ks : List JKey} {m m' : MS} {kd : List JKid} (h : m.bad = 0) (hs : rShape nm x = 0) (hk : rkids f (path ++ pth nm) (decide (rk nm = 8)) (kidsM nm x) m = (kd, m')) : rmems f path ((nm, x) :: r) ks m = rmems f path r (ks ++ [⟨nm, x, kd⟩]) m' := by rw [rmems, if_neg (fun z => z h), if_neg (fun z => z hs), hk]
def LenOK (f : ByteArray → JV → MS → MS) : Prop := ∀ p x m, m.l.length ≤ 200 → m.l.length ≤ (f p x m).l.length ∧ (f p x m).l.length ≤ 200
theorem rkids_ok {f : ByteArray → JV → MS → MS} (hf : LenOK f) (under : ByteArray) (sg : Bool) : ∀ (r : List BJ) (m : MS), m.l.length ≤ 200 → m.l.length ≤ (rkids f under sg r m).2.l.length ∧ (rkids f under sg r m).2.l.length ≤ 200
  | [], m, h => ⟨Nat.le_refl _, h⟩
  | (k, x) :: r, m, h => by
    have h1 := hf (if sg = true then under else under ++ pth k) x m h
    have h2 := rkids_ok hf under sg r _ h1.2
    rw [rkids]; exact ⟨Nat.le_trans h1.1 h2.1, h2.2⟩
theorem rmems_ok {f : ByteArray → JV → MS → MS} (hf : LenOK f) (path : ByteArray) : ∀ (r : List BJ) (ks : List JKey) (m : MS), m.l.length ≤ 200 → m.l.length ≤ (rmems f path r ks m).2.2.l.length ∧ (rmems f path r ks m).2.2.l.length ≤ 200
  | [], ks, m, h => ⟨Nat.le_refl _, h⟩
  | (nm, x) :: r, ks, m, h => by
    rw [rmems]
    split
    · exact ⟨Nat.le_refl _, h⟩
    · split
      · exact ⟨Nat.le_refl _, h⟩
      · have h1 := rkids_ok hf (path ++ pth nm) (decide (rk nm = 8)) (kidsM nm x) m h
        have h2 := rmems_ok hf path r (ks ++ [⟨nm, x, (rkids f (path ++ pth nm) (decide (rk nm = 8)) (kidsM nm x) m).1⟩]) _ h1.2
        exact ⟨Nat.le_trans h1.1 h2.1, h2.2⟩
theorem setk_len (l : List JNode) (i : Nat) (ks : List JKey) : (setk l i ks).length = l.length := by simp [setk]
theorem rnd_ok : ∀ n, LenOK (rnd n)
  | 0, p, x, m, h => ⟨Nat.le_refl _, h⟩
  | n + 1, p, x, m, h => by
    by_cases hb : m.bad = 0
    · by_cases hl : m.l.length = 200
      · rw [rnd_m hb hl]; exact ⟨Nat.le_refl _, h⟩
      · have hm : (m1 m p x).l.length = m.l.length + 1 := by simp [m1]
        have h1 := rmems_ok (rnd_ok n) p x.m [] (m1 m p x) (by omega)
        cases hr : rmems (rnd n) p x.m [] (m1 m p x) with
        | mk b q =>
          obtain ⟨ks, m'⟩ := q
          rw [hr] at h1
          simp only at h1
          cases b with
          | true => rw [rnd_t hb hl hr]; omega
          | false => rw [rnd_f hb hl hr]; show m.l.length ≤ (setk m'.l m.l.length ks).length ∧ (setk m'.l m.l.length ks).length ≤ 200; rw [setk_len]; omega
    · rw [rnd_b hb]; exact ⟨Nat.le_refl _, h⟩
section
variable [GLay]
theorem setk_cells : ∀ (l : List JNode) (i : Nat) (ks : List JKey), i < l.length → (noder l).flatten.set (i * 4 + 3) (.sl false 10 (keyr ks)) = (noder (setk l i ks)).flatten
  | [], i, ks, h => by simp at h
  | a :: r, 0, ks, _ => by simp [noder, setk, nodec]
  | a :: r, i + 1, ks, h => by
    have ih := setk_cells r i ks (by simpa using h)
    have e1 : (noder (a :: r)).flatten = nodec a ++ (noder r).flatten := by simp [noder]
    have e2 : (noder (setk (a :: r) (i + 1) ks)).flatten = nodec a ++ (noder (setk r i ks)).flatten := by simp [noder, setk]
    rw [e1, e2, ← ih, List.set_append_right _ _ (by show 4 ≤ _; omega)]
    congr 1
    show List.set _ ((i + 1) * 4 + 3 - 4) _ = _
    congr 1; omega
theorem pth_size (n : ByteArray) : (pth n).size ≤ 2 * n.size + 1 := by
  have h : n.data.toList.length = n.size := Array.length_toList ..
  have h2 := shw_len n.size [n.data.toList] (by intro x hx; rw [List.mem_singleton.1 hx]; omega)
  unfold pth; rw [ba_size]
  simp only [List.length_singleton, Nat.one_mul] at h2; exact h2
end
end Lg
namespace Lg
open Go
section
variable [GLay]
theorem rmems_sq {f : ByteArray → JV → MS → MS} {path : ByteArray} {q : BJ} {r : List BJ} {ks : List JKey} {m : MS} (h : m.bad = 0) (hs : ¬ rShape q.1 q.2 = 0) : rmems f path (q :: r) ks m = (true, ks, ⟨m.l, rShape q.1 q.2, path ++ pth q.1⟩) := by
  obtain ⟨a, b⟩ := q; exact rmems_s h hs
theorem rmems_kq {f : ByteArray → JV → MS → MS} {path : ByteArray} {q : BJ} {r : List BJ} {ks : List JKey} {m m' : MS} {kd : List JKid} (h : m.bad = 0) (hs : rShape q.1 q.2 = 0) (hk : rkids f (path ++ pth q.1) (decide (rk q.1 = 8)) (kidsM q.1 q.2) m = (kd, m')) : rmems f path (q :: r) ks m = rmems f path r (ks ++ [⟨q.1, q.2, kd⟩]) m' := by
  obtain ⟨a, b⟩ := q; exact rmems_k h hs hk
theorem rkids_q {f : ByteArray → JV → MS → MS} {under : ByteArray} {sg : Bool} {k : BJ} {r : List BJ} {m : MS} : rkids f under sg (k :: r) m = (⟨k.1, m.l.length⟩ :: (rkids f under sg r (f (if sg = true then under else under ++ pth k.1) k.2 m)).1, (rkids f under sg r (f (if sg = true then under else under ++ pth k.1) k.2 m)).2) := by
  obtain ⟨a, b⟩ := k; rw [rkids]
theorem zi_get {l : List JV} {i : Nat} {q : BJ} (h : (l.zipIdx.map fun q => (itoaB q.2, q.1))[i]? = some q) : q.1.size ≤ 21 ∨ 2000000000 < i := by
  rw [List.getElem?_map, List.getElem?_zipIdx] at h
  cases hx : l[i]? with
  | none => rw [hx] at h; cases h
  | some x =>
    rw [hx] at h
    simp only [Option.map_some, Option.some.injEq] at h
    subst h
    by_cases hi : i ≤ 2000000000
    · left; exact itoa_size (by omega) (by omega)
    · right; omega
theorem kids_ks {n : ByteArray} {v : JV} (hv : jb v) {i : Nat} {q : BJ} (h : (kidsM n v)[i]? = some q) : q.1.size ≤ 1000000 := by
  unfold kidsM at h
  have hb := (jb_eq v).1 hv
  split at h
  · cases i with
    | zero => simp at h; subst h; show e0.size ≤ 1000000; decide
    | succ i => simp at h
  · split at h
    · exact (mb_get hb.2.2.2.2.2 h).1
    · split at h
      · have hlt := (List.getElem?_eq_some_iff.1 h).1
        simp at hlt
        rcases zi_get h with h1 | h1
        · omega
        · have := hb.2.2.1; omega
      · simp at h
end
end Lg
namespace Lg
open Go
noncomputable def rnode (v : JV) : MS := rnd (jsize v).toNat e0 v ⟨[], 0, e0⟩
noncomputable def jcomp (v : JV) : List JNode × Int × ByteArray := if schB v = false then ([], 14, e0) else if ¬ (rnode v).bad = 0 then ([], (rnode v).bad, (rnode v).path) else ((rnode v).l, 0, e0)
theorem jcomp_n {v : JV} (h : schB v = false) : jcomp v = ([], 14, e0) := by unfold jcomp; rw [if_pos h]
theorem jcomp_b {v : JV} (h : schB v = true) (hb : ¬ (rnode v).bad = 0) : jcomp v = ([], (rnode v).bad, (rnode v).path) := by unfold jcomp; rw [if_neg (by rw [h]; decide), if_pos hb]
theorem jcomp_y {v : JV} (h : schB v = true) (hb : (rnode v).bad = 0) : jcomp v = ((rnode v).l, 0, e0) := by unfold jcomp; rw [if_neg (by rw [h]; decide), if_neg (fun z => z hb)]
end Lg
namespace Lg
open Go
section
variable [GLay]
def KR (nn : Nat) (n : JNode) : Prop := ∀ k ∈ n.keys, ∀ d ∈ k.kids, 0 ≤ d.node ∧ d.node < nn
def DR (nn : Nat) (l : List JKid) : Prop := ∀ d ∈ l, 0 ≤ d.node ∧ d.node < nn
def YR (nn : Nat) (l : List JKey) : Prop := ∀ k ∈ l, DR nn k.kids
theorem KR_mono {a b : Nat} {n : JNode} (h : KR a n) (hab : a ≤ b) : KR b n := fun k hk d hd => ⟨(h k hk d hd).1, by have := (h k hk d hd).2; omega⟩
theorem YR_mono {a b : Nat} {n : List JKey} (h : YR a n) (hab : a ≤ b) : YR b n := fun k hk d hd => ⟨(h k hk d hd).1, by have := (h k hk d hd).2; omega⟩
def YZ (l : List JKey) : Prop := ∀ k ∈ l, k.name.size ≤ 1000000 ∧ jb k.v ∧ k.kids.length ≤ 1000000
def KZ (n : JNode) : Prop := n.keys.length ≤ 1000000 ∧ YZ n.keys
def nml (q : ByteArray) : BL := q.data.toList
theorem nml_inj {a b : ByteArray} (h : nml a = nml b) : a = b := by
  cases a; cases b; simp only [nml] at h; congr 1; exact Array.toList_inj.1 h
theorem pth_app (ns : List BL) (n : ByteArray) : ba (shw ns) ++ pth n = ba (shw (ns ++ [nml n])) := by
  rw [pth, ba_app, shw_app]; rfl
structure Adds (m m' : MS) (B : Nat) (ext : List JNode) (nss : List (List BL)) : Prop where
  l : m'.l = m.l ++ ext
  kr : ∀ n ∈ ext, KR m'.l.length n
  pa : ext.map JNode.path = nss.map fun q => ba (shw q)
  sz : ∀ n ∈ ext, n.path.size ≤ B
  kz : ∀ n ∈ ext, KZ n
  nd : nss.Nodup
def NodeOK (n : Nat) (f : ByteArray → JV → MS → MS) : Prop := ∀ (ns : List BL) (x : JV) (m : MS), jb x → jst x → (jsize x).toNat ≤ n → (f (ba (shw ns)) x m).bad = 0 → m.bad = 0 ∧ ∃ ext nss, Adds m (f (ba (shw ns)) x m) ((ba (shw ns)).size + 4000002 * (jsize x).toNat) ext nss ∧ ext ≠ [] ∧ ∀ q ∈ nss, ns <+: q
theorem pre_eq {a : List BL} {x y : BL} {q : List BL} (h : a ++ [x] <+: q) (k : a ++ [y] <+: q) : x = y := by
  have := List.prefix_of_prefix_length_le h k (by simp)
  have h2 := this.eq_of_length (by simp)
  simpa using h2
theorem Adds_app {m m1 m2 : MS} {B : Nat} {e1 e2 : List JNode} {n1 n2 : List (List BL)} (h1 : Adds m m1 B e1 n1) (h2 : Adds m1 m2 B e2 n2) (hd : ∀ q ∈ n1, q ∉ n2) : Adds m m2 B (e1 ++ e2) (n1 ++ n2) where
  l := by rw [h2.l, h1.l, List.append_assoc]
  kr := by
    intro n hn
    have hle : m1.l.length ≤ m2.l.length := by rw [h2.l]; simp
    rcases List.mem_append.1 hn with h | h
    · exact KR_mono (h1.kr n h) hle
    · exact h2.kr n h
  pa := by rw [List.map_append, List.map_append, h1.pa, h2.pa]
  sz := by
    intro n hn
    rcases List.mem_append.1 hn with h | h
    · exact h1.sz n h
    · exact h2.sz n h
  kz := by
    intro n hn
    rcases List.mem_append.1 hn with h | h
    · exact h1.kz n h
    · exact h2.kz n h
  nd := by
    rw [List.nodup_append]
    exact ⟨h1.nd, h2.nd, fun a ha b hb e => hd a ha (e ▸ hb)⟩
theorem Adds_le {m m' : MS} {B C : Nat} {e : List JNode} {n : List (List BL)} (h : Adds m m' B e n) (hbc : B ≤ C) : Adds m m' C e n := ⟨h.l, h.kr, h.pa, fun n hn => Nat.le_trans (h.sz n hn) hbc, h.kz, h.nd⟩
theorem Adds_nil (m : MS) (B : Nat) : Adds m m B [] [] := ⟨by simp, by simp, rfl, by simp, by simp, List.nodup_nil⟩
theorem rkids_len (f : ByteArray → JV → MS → MS) (u : ByteArray) (sg : Bool) : ∀ (r : List BJ) (m : MS), (rkids f u sg r m).1.length = r.length
  | [], m => rfl
  | (k, x) :: r, m => by rw [rkids]; simp [rkids_len f u sg r]
theorem rkids_add {n : Nat} {f : ByteArray → JV → MS → MS} (hf : NodeOK n f) (us : List BL) (sg : Bool) (S : Nat) (hS : S ≤ n) : ∀ (r : List BJ) (m : MS), (∀ q ∈ r, q.1.size ≤ 1000000 ∧ jb q.2 ∧ jst q.2 ∧ (jsize q.2).toNat ≤ S) → (r.map (·.1)).Nodup → (sg = true → r.length ≤ 1) → (rkids f (ba (shw us)) sg r m).2.bad = 0 →
    m.bad = 0 ∧ DR (rkids f (ba (shw us)) sg r m).2.l.length (rkids f (ba (shw us)) sg r m).1 ∧ ∃ ext nss, Adds m (rkids f (ba (shw us)) sg r m).2 ((ba (shw us)).size + 2000001 + 4000002 * S) ext nss ∧ ∀ q ∈ nss, ∃ k ∈ r, (if sg = true then us else us ++ [nml k.1]) <+: q
  | [], m, _, _, _, hb => ⟨hb, (fun d hd => by simp [rkids] at hd : ∀ d ∈ (rkids f (ba (shw us)) sg [] m).1, _), [], [], Adds_nil _ _, fun q hq => by cases hq⟩
  | (k, x) :: r, m, hr, hn, hsg, hb => by
    have hx := hr (k, x) (.head _)
    simp only at hx
    have hn1 := List.nodup_cons.1 hn
    rw [rkids] at hb ⊢
    simp only at hb ⊢
    have hnx : (if sg = true then ba (shw us) else ba (shw us) ++ pth k) = ba (shw (if sg = true then us else us ++ [nml k])) := by
      split
      · rfl
      · exact pth_app us k
    have hsz : (ba (shw (if sg = true then us else us ++ [nml k]))).size ≤ (ba (shw us)).size + 2000001 := by
      rw [← hnx]
      split
      · omega
      · have := pth_size k; rw [ByteArray.size_append]; omega
    rw [hnx] at hb ⊢
    generalize hm1 : f (ba (shw (if sg = true then us else us ++ [nml k]))) x m = q1 at hb ⊢
    obtain ⟨i1, i2, ext2, nss2, a2, p2⟩ := rkids_add hf us sg S hS r q1 (fun q hq => hr q (.tail _ hq)) hn1.2 (fun h => by have := hsg h; simp at this; simp [this]) hb
    obtain ⟨j1, ext1, nss1, a1, ne, p1⟩ := hf (if sg = true then us else us ++ [nml k]) x m hx.2.1 hx.2.2.1 (by omega) (by rw [hm1]; exact i1)
    rw [hm1] at a1
    have a1' := Adds_le a1 (C := (ba (shw us)).size + 2000001 + 4000002 * S) (by
      have h4 : 4000002 * (jsize x).toNat ≤ 4000002 * S := Nat.mul_le_mul_left _ hx.2.2.2
      omega)
    refine ⟨j1, ?_, ext1 ++ ext2, nss1 ++ nss2, Adds_app a1' a2 ?_, ?_⟩
    · intro d hd
      rcases List.mem_cons.1 hd with rfl | hd
      · refine ⟨by simp, ?_⟩
        have h3 := a2.l
        have h4 := a1.l
        have h5 : 0 < ext1.length := List.length_pos_iff.2 ne
        rw [h3, h4]; simp only [List.length_append]; omega
      · exact i2 d hd
    · intro q hq hq2
      obtain ⟨k', hk', hpk⟩ := p2 q hq2
      have h1 := p1 q hq
      cases sg with
      | true =>
        have := hsg rfl
        simp at this
        subst this
        cases hk'
      | false =>
        simp only [Bool.false_eq_true, if_false] at h1 hpk
        have := nml_inj (pre_eq h1 hpk)
        exact hn1.1 (List.mem_map.2 ⟨k', hk', this.symm⟩)
    · intro q hq
      rcases List.mem_append.1 hq with h | h
      · exact ⟨(k, x), .head _, p1 q h⟩
      · obtain ⟨k', hk', hp⟩ := p2 q h
        exact ⟨k', .tail _ hk', hp⟩
theorem ms_nodup {m : List BJ} (h : msorted m) : (m.map (·.1)).Nodup := by
  rw [List.Nodup, List.pairwise_map]
  exact h.imp fun hb => blt_ne hb
theorem kZ_nodup {l : List JV} (h : l.length ≤ 1000000) : ((l.zipIdx.map fun q => (itoaB q.2, q.1)).map (·.1)).Nodup := by
  rw [List.map_map, List.Nodup, List.pairwise_map]
  have h1 : (l.zipIdx).Pairwise (fun a b => ¬ a.2 = b.2) := by
    have h2 : (l.zipIdx.map (·.2)).Nodup := by rw [List.zipIdx_map_snd]; exact List.nodup_range'
    rw [List.Nodup, List.pairwise_map] at h2
    exact h2
  refine h1.imp_of_mem fun {a b} ha hb hab e => hab ?_
  have ha2 : a.2 < l.length := by have := List.mem_zipIdx (x := a.1) (i := a.2) ha; omega
  have hb2 : b.2 < l.length := by have := List.mem_zipIdx (x := b.1) (i := b.2) hb; omega
  have e' : Lib.itoa (a.2 : Int) = Lib.itoa (b.2 : Int) := ba_inj.1 e
  have e1 := (itoa_ix (by omega : a.2 ≤ 1000000)).2
  have e2 := (itoa_ix (by omega : b.2 ≤ 1000000)).2
  rw [e'] at e1; exact_mod_cast e1.symm.trans e2
theorem kids_nodup {n : ByteArray} {v : JV} (hv : jb v) (hs : jst v) : ((kidsM n v).map (·.1)).Nodup := by
  unfold kidsM
  split
  · simp
  · split
    · exact ms_nodup (st_ms hs)
    · split
      · exact kZ_nodup ((jb_eq v).1 hv).2.2.1
      · simp
theorem kids_st {n : ByteArray} {v : JV} (hs : jst v) {i : Nat} {q : BJ} (h : (kidsM n v)[i]? = some q) : jst q.2 := by
  unfold kidsM at h
  split at h
  · have hi := (List.getElem?_eq_some_iff.1 h).1
    have : i = 0 := by simp at hi; exact hi
    subst this
    cases h
    exact hs
  · split at h
    · exact st_mget hs h
    · split at h
      · exact st_get hs (kZ_get (l := v.l) h)
      · simp at h
theorem rmems_add {n : Nat} {f : ByteArray → JV → MS → MS} (hf : NodeOK n f) (ns : List BL) (S : Nat) (hS : S ≤ n) : ∀ (r : List BJ) (ks : List JKey) (m : MS), (∀ q ∈ r, q.1.size ≤ 1000000 ∧ jb q.2 ∧ jst q.2 ∧ (jsize q.2).toNat ≤ S) → (r.map (·.1)).Nodup → (rmems f (ba (shw ns)) r ks m).2.2.bad = 0 →
    m.bad = 0 ∧ (rmems f (ba (shw ns)) r ks m).1 = false ∧ (YR m.l.length ks → YR (rmems f (ba (shw ns)) r ks m).2.2.l.length (rmems f (ba (shw ns)) r ks m).2.1) ∧ (YZ ks → YZ (rmems f (ba (shw ns)) r ks m).2.1) ∧ (rmems f (ba (shw ns)) r ks m).2.1.length ≤ ks.length + r.length ∧ ∃ ext nss, Adds m (rmems f (ba (shw ns)) r ks m).2.2 ((ba (shw ns)).size + 4000002 + 4000002 * S) ext nss ∧ ∀ q ∈ nss, ∃ k ∈ r, ns ++ [nml k.1] <+: q
  | [], ks, m, _, _, hb => ⟨hb, rfl, fun h => h, fun h => h, Nat.le_refl _, [], [], Adds_nil _ _, fun q hq => by cases hq⟩
  | (nm, x) :: r, ks, m, hr, hn, hb => by
    have hx := hr (nm, x) (.head _)
    simp only at hx
    have hn1 := List.nodup_cons.1 hn
    by_cases hm : m.bad = 0
    rotate_left
    · rw [rmems_e (.inr hm)] at hb; exact absurd hb hm
    by_cases hsh : rShape nm x = 0
    rotate_left
    · rw [rmems_s hm hsh] at hb; exact absurd hb hsh
    cases hk : rkids f (ba (shw ns) ++ pth nm) (decide (rk nm = 8)) (kidsM nm x) m with
    | mk kd q1 =>
      rw [rmems_k hm hsh hk] at hb ⊢
      obtain ⟨i1, i2, i3, i4, i5, ext2, nss2, a2, p2⟩ := rmems_add hf ns S hS r (ks ++ [⟨nm, x, kd⟩]) q1 (fun q hq => hr q (.tail _ hq)) hn1.2 hb
      rw [pth_app] at hk
      have hk2 := rkids_add hf (ns ++ [nml nm]) (decide (rk nm = 8)) S hS (kidsM nm x) m (fun q hq => by
        obtain ⟨i, hi⟩ := List.mem_iff_getElem?.1 hq
        have h1 := kids_jb hx.2.1 hi
        exact ⟨kids_ks hx.2.1 hi, h1.1, kids_st hx.2.2.1 hi, by have := h1.2; omega⟩) (kids_nodup hx.2.1 hx.2.2.1) (fun h => by rw [kids_one (of_decide_eq_true h)]; exact Nat.le_refl 1)
      rw [hk] at hk2
      obtain ⟨j1, j2, ext1, nss1, a1, p1⟩ := hk2 i1
      have hsz : (ba (shw (ns ++ [nml nm]))).size ≤ (ba (shw ns)).size + 2000001 := by
        rw [← pth_app]; have := pth_size nm; rw [ByteArray.size_append]; omega
      have a1' := Adds_le a1 (C := (ba (shw ns)).size + 4000002 + 4000002 * S) (by omega)
      have p1' : ∀ q ∈ nss1, ns ++ [nml nm] <+: q := by
        intro q hq
        obtain ⟨k', hk', hp⟩ := p1 q hq
        split at hp
        · exact hp
        · exact (List.prefix_append _ _).trans hp
      have hkl : kd.length ≤ 1000000 := by
        have e := rkids_len f (ba (shw (ns ++ [nml nm]))) (decide (rk nm = 8)) (kidsM nm x) m
        rw [hk] at e
        have := kids_len (n := nm) hx.2.1
        simp only at e; omega
      refine ⟨j1, i2, ?_, ?_, by rw [List.length_append] at i5; simp only [List.length_cons, List.length_nil] at i5 ⊢; omega, ext1 ++ ext2, nss1 ++ nss2, Adds_app a1' a2 ?_, ?_⟩
      · intro hy
        refine i3 fun k hk3 => ?_
        rcases List.mem_append.1 hk3 with h | h
        · exact YR_mono hy (by have := a1.l; simp only at this; rw [this]; simp) k h
        · rw [List.mem_singleton.1 h]; exact j2
      · intro hy
        refine i4 fun k hk3 => ?_
        rcases List.mem_append.1 hk3 with h | h
        · exact hy k h
        · rw [List.mem_singleton.1 h]; exact ⟨hx.1, hx.2.1, hkl⟩
      · intro q hq hq2
        obtain ⟨k', hk', hpk⟩ := p2 q hq2
        have := nml_inj (pre_eq (p1' q hq) hpk)
        exact hn1.1 (List.mem_map.2 ⟨k', hk', this.symm⟩)
      · intro q hq
        rcases List.mem_append.1 hq with h | h
        · exact ⟨(nm, x), .head _, p1' q h⟩
        · obtain ⟨k', hk', hp⟩ := p2 q h
          exact ⟨k', .tail _ hk', hp⟩
theorem setk_at (x : JNode) (b : List JNode) (ks : List JKey) : ∀ a : List JNode, setk (a ++ x :: b) a.length ks = a ++ ⟨x.path, x.all, x.pass, ks⟩ :: b
  | [] => rfl
  | y :: r => by
    have := setk_at x b ks r
    simp only [setk] at this ⊢
    simp [this]
theorem rnd_add : ∀ n, NodeOK n (rnd n)
  | 0, ns, x, m, _, _, hn, _ => by have := jsize_pos x; omega
  | n + 1, ns, x, m, hjb, hst, hn, hb => by
    have hp := jsize_pos x
    by_cases hm : m.bad = 0
    rotate_left
    · rw [rnd_b hm] at hb; exact absurd hb hm
    by_cases hl : m.l.length = 200
    · rw [rnd_m hm hl] at hb; exact absurd hb (by decide : ¬ (5 : Int) = 0)
    have hmm := rmems_add (rnd_add n) ns ((jsize x).toNat - 1) (by omega) x.m [] (m1 m (ba (shw ns)) x) (fun q hq => by
      obtain ⟨i, hi⟩ := List.mem_iff_getElem?.1 hq
      have h6 := ((jb_eq x).1 hjb).2.2.2.2.2
      have h1 := mb_get h6 hi
      have h2 := msize_mem hi
      have h3 := jsize_eq x
      have h4 := lsize_nn x.l
      have h5 := jsize_pos q.2
      exact ⟨h1.1, h1.2, st_mget hst hi, by omega⟩) (ms_nodup (st_ms hst))
    cases hr : rmems (rnd n) (ba (shw ns)) x.m [] (m1 m (ba (shw ns)) x) with
    | mk b q =>
      obtain ⟨ks, m'⟩ := q
      rw [hr] at hmm
      simp only at hmm
      cases b with
      | true =>
        rw [rnd_t hm hl hr] at hb
        exact absurd (hmm hb).2.1 (by decide)
      | false =>
        rw [rnd_f hm hl hr] at hb ⊢
        obtain ⟨_, _, hy, hyz, hyl, ext, nss, a, p⟩ := hmm hb
        refine ⟨hm, ⟨ba (shw ns), decide (x.kind = 1), x.b, ks⟩ :: ext, ns :: nss, ?_, by simp, ?_⟩
        · have hal : m'.l = m.l ++ (⟨ba (shw ns), decide (x.kind = 1), x.b, []⟩ :: ext) := by
            have := a.l
            simp only [m1] at this
            rw [this, List.append_assoc]; rfl
          refine ⟨?_, ?_, ?_, ?_, ?_, ?_⟩
          · show setk m'.l m.l.length ks = _
            rw [hal, setk_at]
          · intro nn hnn
            show KR (setk m'.l m.l.length ks).length nn
            rw [setk_len]
            rcases List.mem_cons.1 hnn with rfl | h
            · exact hy (fun k hk => by cases hk)
            · exact a.kr nn h
          · simp only [List.map_cons, a.pa]
          · intro nn hnn
            rcases List.mem_cons.1 hnn with rfl | h
            · show (ba (shw ns)).size ≤ _; omega
            · have := a.sz nn h; omega
          · intro nn hnn
            rcases List.mem_cons.1 hnn with rfl | h
            · refine ⟨?_, hyz (fun k hk => by cases hk)⟩
              have h9 := ((jb_eq x).1 hjb).2.2.2.1
              simp only [List.length_nil] at hyl
              show ks.length ≤ 1000000; omega
            · exact a.kz nn h
          · refine List.nodup_cons.2 ⟨fun h => ?_, a.nd⟩
            obtain ⟨k, _, hk⟩ := p ns h
            have := hk.length_le
            simp at this
            omega
        · intro q hq
          rcases List.mem_cons.1 hq with rfl | h
          · exact List.prefix_refl _
          · obtain ⟨k, _, hk⟩ := p q h
            exact (List.prefix_append _ _).trans hk
structure NOK (l : List JNode) : Prop where
  kr : ∀ n ∈ l, KR l.length n
  nd : (l.map JNode.path).Nodup
  le : l.length ≤ 200
  sz : ∀ n ∈ l, n.path.size ≤ 100000000000
  kz : ∀ n ∈ l, KZ n
theorem jcomp_ok {v : JV} (hjb : jb v) (hst : jst v) (hsz : jsize v ≤ 10000) (h : (jcomp v).2.1 = 0) : NOK (jcomp v).1 := by
  unfold jcomp at h ⊢
  split at h
  · exact absurd h (by decide)
  · split at h
    · rename_i h1; exact absurd h h1
    · rename_i h1 h2
      have hb : (rnode v).bad = 0 := Decidable.not_not.1 h2
      rw [if_neg h1, if_neg h2]
      have he : e0 = ba (shw []) := by simp [shw]; rfl
      have := rnd_add (jsize v).toNat [] v ⟨[], 0, e0⟩ hjb hst (Nat.le_refl _)
      rw [← he] at this
      obtain ⟨_, ext, nss, a, _, _⟩ := this hb
      have hl : (rnode v).l = ext := by have := a.l; rw [List.nil_append] at this; exact this
      refine ⟨?_, ?_, ?_, ?_, ?_⟩
      · show ∀ n ∈ (rnode v).l, KR (rnode v).l.length n
        intro n hn; rw [hl] at hn; exact a.kr n hn
      · show ((rnode v).l.map JNode.path).Nodup
        rw [hl, a.pa, List.Nodup, List.pairwise_map]
        exact List.Pairwise.imp (fun hne e => hne (shw_inj.1 e)) a.nd
      · exact (rnd_ok (jsize v).toNat e0 v ⟨[], 0, e0⟩ (by decide)).2
      · show ∀ n ∈ (rnode v).l, n.path.size ≤ 100000000000
        intro n hn; rw [hl] at hn
        have h3 := a.sz n hn
        have h4 : e0.size = 0 := rfl
        rw [h4] at h3
        omega
      · show ∀ n ∈ (rnode v).l, KZ n
        intro n hn; rw [hl] at hn; exact a.kz n hn
end
end Lg
namespace Lg
open Go
def cREF : ByteArray := ⟨#[36, 114, 101, 102]⟩
def hsh : ByteArray := ⟨#[35]⟩
def tgt (s : ByteArray) : List JNode → Option Nat
  | [] => none
  | n :: r => if s = hsh ++ n.path then some 0 else (tgt s r).map (· + 1)
def tgtI (s : ByteArray) (l : List JNode) : Int := match tgt s l with | some i => i | none => -1
theorem tgt_none {s : ByteArray} : ∀ {l : List JNode}, tgt s l = none ↔ ∀ n ∈ l, ¬ s = hsh ++ n.path
  | [] => by simp [tgt]
  | n :: r => by
    rw [tgt]
    split
    · rename_i h; simp [h]
    · rename_i h; rw [Option.map_eq_none_iff, tgt_none]; simp [h]
theorem tgt_some {s : ByteArray} : ∀ {l : List JNode} {i : Nat}, tgt s l = some i → ∃ n, l[i]? = some n ∧ s = hsh ++ n.path
  | [], i, h => by simp [tgt] at h
  | n :: r, i, h => by
    rw [tgt] at h
    split at h
    · rename_i h1; cases h; exact ⟨n, rfl, h1⟩
    · cases hr : tgt s r with
      | none => rw [hr] at h; cases h
      | some j =>
        rw [hr] at h; cases h
        obtain ⟨x, hx, e⟩ := tgt_some hr
        exact ⟨x, hx, e⟩
theorem tgt_app {s : ByteArray} : ∀ (l m : List JNode), tgt s (l ++ m) = match tgt s l with | some i => some i | none => (tgt s m).map (· + l.length)
  | [], m => by simp [tgt]
  | n :: r, m => by
    rw [List.cons_append, tgt, tgt]
    split
    · rfl
    · rw [tgt_app r m]
      cases tgt s r with
      | some i => rfl
      | none => cases tgt s m with
        | none => rfl
        | some j => simp [Nat.add_assoc]
theorem hsh_inj {a b : ByteArray} (h : hsh ++ a = hsh ++ b) : a = b := by
  have h1 := congrArg (fun x => x.data.toList) h
  simp [hsh] at h1
  cases a; cases b; simp at h1; rw [h1]
theorem tgtI_take_y {s : ByteArray} {l : List JNode} {j : Nat} {n : JNode} (hd : (l.map JNode.path).Nodup) (hn : l[j]? = some n) (h : s = hsh ++ n.path) : tgtI s (l.take (j + 1)) = j := by
  have hj := (List.getElem?_eq_some_iff.1 hn).1
  have hnone : tgt s (l.take j) = none := by
    rw [tgt_none]
    intro x hx e
    have e2 : n.path = x.path := hsh_inj (h ▸ e)
    obtain ⟨i, hi⟩ := List.mem_iff_getElem?.1 hx
    have hij : i < j := by have := (List.getElem?_eq_some_iff.1 hi).1; simp at this; omega
    rw [List.getElem?_take, if_pos hij] at hi
    rw [List.Nodup, List.pairwise_map, List.pairwise_iff_getElem] at hd
    have hi' := (List.getElem?_eq_some_iff.1 hi)
    have hj' := (List.getElem?_eq_some_iff.1 hn)
    have := hd i j hi'.1 hj'.1 hij
    rw [hi'.2, hj'.2] at this
    exact this e2.symm
  have ht : l.take (j + 1) = l.take j ++ [n] := by rw [List.take_add_one, hn]; rfl
  unfold tgtI
  rw [ht, tgt_app, hnone]
  simp only [tgt, if_pos h, Option.map_some, List.length_take]
  have : min j l.length = j := by omega
  rw [this]; simp
theorem tgtI_take_n {s : ByteArray} {l : List JNode} {j : Nat} {n : JNode} (hn : l[j]? = some n) (h : ¬ s = hsh ++ n.path) : tgtI s (l.take (j + 1)) = tgtI s (l.take j) := by
  have ht : l.take (j + 1) = l.take j ++ [n] := by rw [List.take_add_one, hn]; rfl
  unfold tgtI
  rw [ht, tgt_app]
  cases tgt s (l.take j) with
  | some i => rfl
  | none => simp [tgt, if_neg h]
theorem tgtI_lt (s : ByteArray) (l : List JNode) : tgtI s l < l.length ∧ -1 ≤ tgtI s l := by
  unfold tgtI
  cases h : tgt s l with
  | none => simp only; omega
  | some i =>
    obtain ⟨n, hn, _⟩ := tgt_some h
    have := (List.getElem?_eq_some_iff.1 hn).1
    simp only; omega
def lk1 (l : List JNode) (k : JKey) : Option JKey := if k.name = cREF then (if tgtI k.v.s l < 0 then none else some ⟨k.name, k.v, [⟨e0, tgtI k.v.s l⟩]⟩) else some k
def lkk (l : List JNode) : List JKey → List JKey → Option (List JKey)
  | [], a => some a
  | k :: r, a => match lk1 l k with
    | none => none
    | some k' => lkk l r (a ++ [k'])
def cREFP : ByteArray := ⟨#[47, 36, 114, 101, 102]⟩
def lkn (l : List JNode) : List JNode → List JNode → List JNode × Int × ByteArray
  | [], a => (a, 0, e0)
  | n :: r, a => match lkk l n.keys [] with
    | none => ([], 12, n.path ++ cREFP)
    | some ks => lkn l r (a ++ [⟨n.path, n.all, n.pass, ks⟩])
def cALL : ByteArray := ⟨#[97, 108, 108, 79, 102]⟩
def cANY : ByteArray := ⟨#[97, 110, 121, 79, 102]⟩
def cONE : ByteArray := ⟨#[111, 110, 101, 79, 102]⟩
def cNOT : ByteArray := ⟨#[110, 111, 116]⟩
def plc (n : ByteArray) : Bool := decide (n = cREF) || decide (n = cALL) || decide (n = cANY) || decide (n = cONE) || decide (n = cNOT)
def outD (l : List JKid) : List Nat := l.map fun d => d.node.toNat
def outK (k : JKey) : List Nat := if plc k.name = true then outD k.kids else []
def outs (l : List JKey) : List Nat := l.flatMap outK
inductive Rch (o : List JNode) : Nat → Nat → Prop
  | one {a b : Nat} {n : JNode} (hn : o[a]? = some n) (hb : b ∈ outs n.keys) : Rch o a b
  | more {a b c : Nat} {n : JNode} (h : Rch o a b) (hn : o[b]? = some n) (hc : c ∈ outs n.keys) : Rch o a c
theorem Rch.head {o : List JNode} {a b c : Nat} {n : JNode} (hn : o[a]? = some n) (hb : b ∈ outs n.keys) (h : Rch o b c) : Rch o a c := by
  induction h with
  | one hn2 hb2 => exact .more (.one hn hb) hn2 hb2
  | more _ hn2 hc ih => exact .more ih hn2 hc
theorem Rch.closed {o : List JNode} {i u : Nat} (S : Nat → Prop) (h1 : ∀ n, o[i]? = some n → ∀ b ∈ outs n.keys, S b) (h2 : ∀ a n, S a → o[a]? = some n → ∀ b ∈ outs n.keys, S b) (h : Rch o i u) : S u := by
  induction h with
  | one hn hb => exact h1 _ hn _ hb
  | more _ hn hc ih => exact h2 _ _ ih hn _ hc
def cntF (S : List Bool) : Nat := S.count false
theorem cntF_set {S : List Bool} {d : Nat} (h : S[d]? = some false) : cntF (S.set d true) + 1 = cntF S := by
  have hd := List.getElem?_eq_some_iff.1 h
  have hm : false ∈ S := List.mem_of_getElem? h
  have hp : 0 < S.count false := List.count_pos_iff.2 hm
  unfold cntF
  rw [List.count_set hd.1, hd.2]
  simp; omega
structure Dok (o : List JNode) (i : Nat) (src : Nat → Prop) (S : List Bool) (q : Bool × List Bool) : Prop where
  len : q.2.length = S.length
  mono : ∀ u : Nat, S[u]? = some true → q.2[u]? = some true
  cnt : cntF q.2 ≤ cntF S
  yes : q.1 = true → ∃ u : Nat, src u ∧ (u = i ∨ Rch o u i)
  no : q.1 = false → (∀ u : Nat, src u → ¬ u = i ∧ q.2[u]? = some true) ∧ ∀ u : Nat, q.2[u]? = some true → ¬ S[u]? = some true → ∀ n, o[u]? = some n → ∀ v ∈ outs n.keys, ¬ v = i ∧ q.2[v]? = some true
def OR (o : List JNode) : Prop := ∀ n ∈ o, ∀ d ∈ outs n.keys, d < o.length
noncomputable def lkc (o : List JNode) : List JNode → Nat → Int × ByteArray
  | [], _ => (0, e0)
  | n :: r, i => if pb (Rch o i i) = true then (13, n.path) else lkc o r (i + 1)
noncomputable def jlink (l : List JNode) : List JNode × Int × ByteArray :=
  if ¬ (lkn l l []).2.1 = 0 then ([], (lkn l l []).2.1, (lkn l l []).2.2) else
  if ¬ (lkc (lkn l l []).1 (lkn l l []).1 0).1 = 0 then ([], lkc (lkn l l []).1 (lkn l l []).1 0) else ((lkn l l []).1, 0, e0)
end Lg
namespace Lg
open Go Go.RowKit
variable [GLay]
def PastG (P : Program) (tb : Array Nat) (i : Nat) (e : Env) (o : Oper) (v : AV) : List (Nat × (Bool → List AO)) → Prop
  | [] => True
  | (j, σ) :: r => (befB tb j i = true ∨ ∀ b, AOp P (σ b) e o v (σ b)) ∧ PastG P tb i e o v r
def HeldG (tb : Array Nat) (i : Nat) (σ : Bool → List AO) : List (Nat × (List AO → Prop)) → Prop
  | [] => True
  | (k, p) :: r => (befB tb k i = true ∨ ∀ b, p (σ b)) ∧ HeldG tb i σ r
def ChainG (tb : Array Nat) (i : Nat) : List (Nat × (Bool → List AO)) → Prop
  | [] => True
  | (j, _) :: r => befB tb j i = true ∧ ChainG tb i r
inductive RT (P : Program) (N : Nat) (ops : Array Oper) (tb : Array Nat) (Q : Env → List AO → Prop) : Nat → Env → List AO → Prop
  | nil {i e σ} (hi : i = ops.size) (h : Q e σ) : RT P N ops tb Q i e σ
  | op {i e σ} (o : Oper) (v : AV) (σ' : List AO) (ho : ops[i]? = some o) (hg : GuardA ops N e o true) (hd : ∀ d, o.dst = some d → d < N) (h : AOp P σ e o v σ') (hall : ((List.range i).all fun j => befB tb j i) = true)
      (k : RT P N ops tb Q (i + 1) (e.put o.dst v) σ') : RT P N ops tb Q i e σ
def Twin (B : AO) (L : Nat) (σ : Bool → List AO) : Prop := (σ false).length = L ∧ σ true = σ false ++ [B]
inductive RG (P : Program) (N : Nat) (ops : Array Oper) (tb : Array Nat) (B : AO) (L : Nat) (Q : Env → List AO → Prop) : Nat → Env → (Bool → List AO) → List (Nat × (Bool → List AO)) → List (Nat × (List AO → Prop)) → Prop
  | pure {i e σ past held} (o : Oper) (v : AV) (ho : ops[i]? = some o) (hg : GuardA ops N e o true) (hd : ∀ d, o.dst = some d → d < N) (h : ∀ b, AOp P (σ b) e o v (σ b)) (hp : PastG P tb i e o v past)
      (k : RG P N ops tb B L Q (i + 1) (e.put o.dst v) σ past ((i, fun σ' => AOp P σ' e o v σ') :: held)) : RG P N ops tb B L Q i e σ past held
  | eff {i e σ past held} (o : Oper) (v : AV) (σ' : Bool → List AO) (ho : ops[i]? = some o) (hg : GuardA ops N e o true) (hd : ∀ d, o.dst = some d → d < N) (h : ∀ b, AOp P (σ b) e o v (σ' b)) (ht : Twin B L σ') (hh : HeldG tb i σ' held) (hc : ChainG tb i past)
      (k : RG P N ops tb B L Q (i + 1) (e.put o.dst v) σ' ((i, σ) :: past) held) : RG P N ops tb B L Q i e σ past held
  | flt {i e σ past held} (o : Oper) (ho : ops[i]? = some o) (hg : GuardA ops N e o true) (hd : ∀ d, o.dst = some d → d < N) (h : ∀ τ : List AO, τ.length = L → AOp P τ e o (.ptr L 0) (τ ++ [B]))
      (k : RT P N ops tb Q (i + 1) (e.put o.dst (.ptr L 0)) (σ true)) : RG P N ops tb B L Q i e σ past held
structure TrG (P : Program) (N : Nat) (ops : Array Oper) (tb : Array Nat) (B : AO) (L : Nat) (Q : Env → List AO → Prop) (i0 f : Nat) (E : Nat → Env) (H : Bool → Nat → List AO) (val : Nat → AV) (kd : Nat → Kd) : Prop where
  le : i0 ≤ f
  fl : f < ops.size
  twin : ∀ i, i0 ≤ i → i ≤ f → Twin B L fun b => H b i
  pre : ∀ i, i0 ≤ i → i < f → ∃ o, ops[i]? = some o ∧ (∀ d, o.dst = some d → d < N) ∧ E (i + 1) = (E i).put o.dst (val i) ∧ GuardA ops N (E i) o true ∧
    ((kd i = .pure ∧ (∀ b, AOp P (H b i) (E i) o (val i) (H b i) ∧ H b (i + 1) = H b i) ∧
      (∀ j, i0 ≤ j → j < i → kd j = .eff → befB tb j i = true ∨ ∀ b, AOp P (H b j) (E i) o (val i) (H b j)) ∧
      (∀ j, i < j → j < f → kd j = .eff → befB tb i j = true ∨ ∀ b, AOp P (H b (j + 1)) (E i) o (val i) (H b (j + 1)))) ∨
    (kd i = .eff ∧ (∀ b, AOp P (H b i) (E i) o (val i) (H b (i + 1))) ∧ (∀ j, i0 ≤ j → j < i → kd j = .eff → befB tb j i = true)))
  flt : ∃ o, ops[f]? = some o ∧ (∀ d, o.dst = some d → d < N) ∧ E (f + 1) = (E f).put o.dst (val f) ∧ GuardA ops N (E f) o true ∧ kd f = .skip ∧ (∀ b, H b (f + 1) = H b f) ∧
    ∀ τ : List AO, τ.length = L → AOp P τ (E f) o (val f) (τ ++ [B])
  tail : ∀ i, f < i → i < ops.size → ∃ o, ops[i]? = some o ∧ (∀ d, o.dst = some d → d < N) ∧ E (i + 1) = (E i).put o.dst (val i) ∧ GuardA ops N (E i) o true ∧ kd i = .eff ∧
    AOp P (H true i) (E i) o (val i) (H true (i + 1)) ∧ ∀ j, j < i → befB tb j i = true
  fin : Q (E ops.size) (H true ops.size)
section rp
variable {P : Program} {N : Nat} {ops : Array Oper} {tb : Array Nat} {Q : Env → List AO → Prop} {B : AO} {L : Nat}
theorem PastG.mem {i : Nat} {e : Env} {o : Oper} {v : AV} : ∀ {past : List (Nat × (Bool → List AO))}, PastG P tb i e o v past → ∀ q ∈ past, befB tb q.1 i = true ∨ ∀ b, AOp P (q.2 b) e o v (q.2 b)
  | [], _, q, h => by simp at h
  | (j, σ) :: r, ⟨h1, h2⟩, q, h => by
    rcases List.mem_cons.1 h with rfl | h
    · exact h1
    · exact PastG.mem h2 q h
theorem HeldG.mem {i : Nat} {σ : Bool → List AO} : ∀ {held : List (Nat × (List AO → Prop))}, HeldG tb i σ held → ∀ q ∈ held, befB tb q.1 i = true ∨ ∀ b, q.2 (σ b)
  | [], _, q, h => by simp at h
  | (j, p) :: r, ⟨h1, h2⟩, q, h => by
    rcases List.mem_cons.1 h with rfl | h
    · exact h1
    · exact HeldG.mem h2 q h
theorem ChainG.mem {i : Nat} : ∀ {past : List (Nat × (Bool → List AO))}, ChainG tb i past → ∀ q ∈ past, befB tb q.1 i = true
  | [], _, q, h => by simp at h
  | (j, σ) :: r, ⟨h1, h2⟩, q, h => by
    rcases List.mem_cons.1 h with rfl | h
    · exact h1
    · exact ChainG.mem h2 q h
theorem RT.trace {i : Nat} {e : Env} {σ : List AO} (h : RT P N ops tb Q i e σ) (hi : i ≤ ops.size) :
    ∃ (E : Nat → Env) (H : Nat → List AO) (val : Nat → AV), E i = e ∧ H i = σ ∧ (∀ j, i ≤ j → j < ops.size → ∃ o, ops[j]? = some o ∧ (∀ d, o.dst = some d → d < N) ∧ E (j + 1) = (E j).put o.dst (val j) ∧ GuardA ops N (E j) o true ∧
      AOp P (H j) (E j) o (val j) (H (j + 1)) ∧ ∀ k, k < j → befB tb k j = true) ∧ Q (E ops.size) (H ops.size) := by
  induction h with
  | nil hi' h =>
    rename_i i e σ
    exact ⟨fun _ => e, fun _ => σ, fun _ => .any, rfl, rfl, fun j h1 h2 => by omega, h⟩
  | op o v σ' ho hg hd h hall k ih =>
    rename_i i e σ
    have hlt : i < ops.size := (Array.getElem?_eq_some_iff.1 ho).1
    obtain ⟨E, H, val, hE, hH, hs, hQ⟩ := ih (by omega)
    refine ⟨fun j => if j = i then e else E j, fun j => if j = i then σ else H j, fun j => if j = i then v else val j, if_pos rfl, if_pos rfl, fun j h1 h2 => ?_, ?_⟩
    · by_cases hji : j = i
      · subst hji
        refine ⟨o, ho, hd, ?_, by simpa using hg, ?_, fun k hk => List.all_eq_true.1 hall k (List.mem_range.2 hk)⟩
        · simp [hE]
        · simp only [if_true, if_neg (show j + 1 ≠ j by omega), hH]; exact h
      · simp only [if_neg hji, if_neg (show j + 1 ≠ i by omega)]; exact hs j (by omega) h2
    · simp only [if_neg (show ops.size ≠ i by omega)]; exact hQ
theorem RG.trace {i : Nat} {e : Env} {σ : Bool → List AO} {past : List (Nat × (Bool → List AO))} {held : List (Nat × (List AO → Prop))} (h : RG P N ops tb B L Q i e σ past held) (htw : Twin B L σ) :
    ∃ f E H val kd, E i = e ∧ (∀ b, H b i = σ b) ∧ TrG P N ops tb B L Q i f E H val kd ∧
      (∀ j, i ≤ j → j < f → kd j = .pure → ∀ q ∈ past, ∃ o, ops[j]? = some o ∧ (befB tb q.1 j = true ∨ ∀ b, AOp P (q.2 b) (E j) o (val j) (q.2 b))) ∧
      (∀ j, i ≤ j → j < f → kd j = .eff → (∀ q ∈ held, befB tb q.1 j = true ∨ ∀ b, q.2 (H b (j + 1))) ∧ ∀ q ∈ past, befB tb q.1 j = true) := by
  induction h with
  | flt o ho hg hd h k =>
    rename_i i e σ past held
    have hlt : i < ops.size := (Array.getElem?_eq_some_iff.1 ho).1
    obtain ⟨E, H, val, hE, hH, hs, hQ⟩ := k.trace (by omega)
    refine ⟨i, fun j => if j = i then e else E j, fun b j => if j ≤ i + 1 then σ b else H j, fun j => if j = i then .ptr L 0 else val j, fun j => if j = i then .skip else .eff, if_pos rfl, fun b => if_pos (by omega), ⟨Nat.le_refl _, hlt, fun j h1 h2 => ?_, fun j h1 h2 => by omega, ⟨o, ho, hd, ?_, by simpa using hg, if_pos rfl, fun b => ?_, fun τ hτ => ?_⟩, fun j h1 h2 => ?_, ?_⟩, fun j h1 h2 => by omega, fun j h1 h2 => by omega⟩
    · simp only [if_pos (show j ≤ i + 1 by omega)]; exact htw
    · simp [hE]
    · simp
    · simp only [if_true]; exact h τ hτ
    · obtain ⟨o', a1, a2, a3, a4, a5, a6⟩ := hs j (by omega) h2
      refine ⟨o', a1, a2, ?_, ?_, ?_, ?_, a6⟩
      · simp only [if_neg (show j ≠ i by omega), if_neg (show j + 1 ≠ i by omega)]; exact a3
      · simp only [if_neg (show j ≠ i by omega)]; exact a4
      · simp only [if_neg (show j ≠ i by omega)]
      · simp only [if_neg (show j ≠ i by omega), if_neg (show ¬ j + 1 ≤ i + 1 by omega)]
        by_cases hj : j ≤ i + 1
        · have : j = i + 1 := by omega
          subst this
          simp only [Nat.le_refl, if_true]; rw [← hH]; exact a5
        · simp only [if_neg hj]; exact a5
    · simp only [if_neg (show ops.size ≠ i by omega)]
      by_cases hj : ops.size ≤ i + 1
      · simp only [if_pos hj]; have : ops.size = i + 1 := by omega
        rw [this] at hQ ⊢; rw [← hH]; exact hQ
      · simp only [if_neg hj]; exact hQ
  | pure o v ho hg hd h hp k ih =>
    rename_i i e σ past held
    obtain ⟨f, E, H, val, kd, hE, hH, ht, h1, h2⟩ := ih htw
    have hif := ht.le
    refine ⟨f, fun j => if j = i then e else E j, fun b j => if j = i then σ b else H b j, fun j => if j = i then v else val j, fun j => if j = i then .pure else kd j, if_pos rfl, fun b => if_pos rfl, ⟨by omega, ht.fl, fun j h3 h4 => ?_, fun j hj1 hj2 => ?_, ?_, fun j h3 h4 => ?_, ?_⟩, fun j hj1 hj2 hk q hq => ?_, fun j hj1 hj2 hk => ?_⟩
    · by_cases hji : j = i
      · simp only [if_pos hji]; exact htw
      · simp only [if_neg hji]; exact ht.twin j (by omega) h4
    · by_cases hji : j = i
      · subst hji
        refine ⟨o, ho, hd, by simp [hE], by simpa using hg, .inl ⟨by simp, fun b => ⟨by simpa using h b, by simp [hH]⟩, fun j' h4 h5 => by omega, fun j' h4 h5 hk => ?_⟩⟩
        simp only [if_neg (show j' ≠ j by omega), if_neg (show j' + 1 ≠ j by omega)] at hk ⊢
        simp only [if_true]
        exact (h2 j' (by omega) h5 hk).1 (j, fun σ' => AOp P σ' e o v σ') (by simp)
      · obtain ⟨o', ho', hd', hE', hg', hc⟩ := ht.pre j (by omega) hj2
        simp only [if_neg hji, if_neg (show j + 1 ≠ i by omega)]
        refine ⟨o', ho', hd', hE', hg', ?_⟩
        rcases hc with ⟨a0, a1, a4, a5⟩ | ⟨a0, a1, a3⟩
        · refine .inl ⟨a0, a1, fun j' h4 h5 hk' => ?_, fun j' h4 h5 hk' => ?_⟩
          · by_cases hj' : j' = i
            · subst hj'; simp at hk'
            · simp only [if_neg hj'] at hk' ⊢; exact a4 j' (by omega) h5 hk'
          · simp only [if_neg (show j' ≠ i by omega), if_neg (show j' + 1 ≠ i by omega)] at hk' ⊢; exact a5 j' h4 h5 hk'
        · refine .inr ⟨a0, a1, fun j' h4 h5 hk' => ?_⟩
          by_cases hj' : j' = i
          · subst hj'; simp at hk'
          · simp only [if_neg hj'] at hk'; exact a3 j' (by omega) h5 hk'
    · have := ht.flt; simpa only [if_neg (show f ≠ i by omega), if_neg (show f + 1 ≠ i by omega)] using this
    · have := ht.tail j h3 h4; simpa only [if_neg (show j ≠ i by omega), if_neg (show j + 1 ≠ i by omega)] using this
    · have := ht.fin; have h9 := ht.fl; simpa only [if_neg (show ops.size ≠ i by omega)] using this
    · by_cases hji : j = i
      · subst hji; exact ⟨o, ho, by simp only [if_true]; exact hp.mem q hq⟩
      · simp only [if_neg hji] at hk ⊢; exact h1 j (by omega) hj2 hk q hq
    · by_cases hji : j = i
      · subst hji; simp at hk
      · simp only [if_neg hji, if_neg (show j + 1 ≠ i by omega)] at hk ⊢
        obtain ⟨b1, b2⟩ := h2 j (by omega) hj2 hk
        exact ⟨fun q hq => b1 q (List.mem_cons_of_mem _ hq), b2⟩
  | eff o v σ' ho hg hd h htw' hh hc k ih =>
    rename_i i e σ past held
    obtain ⟨f, E, H, val, kd, hE, hH, ht, h1, h2⟩ := ih htw'
    have hif := ht.le
    refine ⟨f, fun j => if j = i then e else E j, fun b j => if j = i then σ b else H b j, fun j => if j = i then v else val j, fun j => if j = i then .eff else kd j, if_pos rfl, fun b => if_pos rfl, ⟨by omega, ht.fl, fun j h3 h4 => ?_, fun j hj1 hj2 => ?_, ?_, fun j h3 h4 => ?_, ?_⟩, fun j hj1 hj2 hk q hq => ?_, fun j hj1 hj2 hk => ?_⟩
    · by_cases hji : j = i
      · simp only [if_pos hji]; exact htw
      · simp only [if_neg hji]; exact ht.twin j (by omega) h4
    · by_cases hji : j = i
      · subst hji
        refine ⟨o, ho, hd, by simp [hE], by simpa using hg, .inr ⟨by simp, fun b => ?_, fun j' h4 h5 => by omega⟩⟩
        simp only [if_true, if_neg (show j + 1 ≠ j by omega), hH]; exact h b
      · obtain ⟨o', ho', hd', hE', hg', hc'⟩ := ht.pre j (by omega) hj2
        simp only [if_neg hji, if_neg (show j + 1 ≠ i by omega)]
        refine ⟨o', ho', hd', hE', hg', ?_⟩
        rcases hc' with ⟨a0, a1, a4, a5⟩ | ⟨a0, a1, a3⟩
        · refine .inl ⟨a0, a1, fun j' h4 h5 hk' => ?_, fun j' h4 h5 hk' => ?_⟩
          · by_cases hj' : j' = i
            · subst hj'
              obtain ⟨o2, ho2, hx⟩ := h1 j (by omega) hj2 a0 (j', σ) (by simp)
              rw [ho'] at ho2; cases ho2
              simp only [if_true]; exact hx
            · simp only [if_neg hj'] at hk' ⊢; exact a4 j' (by omega) h5 hk'
          · simp only [if_neg (show j' ≠ i by omega), if_neg (show j' + 1 ≠ i by omega)] at hk' ⊢; exact a5 j' h4 h5 hk'
        · refine .inr ⟨a0, a1, fun j' h4 h5 hk' => ?_⟩
          by_cases hj' : j' = i
          · subst hj'; exact (h2 j (by omega) hj2 a0).2 (j', σ) (by simp)
          · simp only [if_neg hj'] at hk'; exact a3 j' (by omega) h5 hk'
    · have := ht.flt; simpa only [if_neg (show f ≠ i by omega), if_neg (show f + 1 ≠ i by omega)] using this
    · have := ht.tail j h3 h4; simpa only [if_neg (show j ≠ i by omega), if_neg (show j + 1 ≠ i by omega)] using this
    · have := ht.fin; have h9 := ht.fl; simpa only [if_neg (show ops.size ≠ i by omega)] using this
    · by_cases hji : j = i
      · subst hji; simp at hk
      · simp only [if_neg hji] at hk ⊢; exact h1 j (by omega) hj2 hk q (List.mem_cons_of_mem _ hq)
    · by_cases hji : j = i
      · subst hji
        exact ⟨fun q hq => by simp only [if_neg (show j + 1 ≠ j by omega), hH]; exact hh.mem q hq, hc.mem⟩
      · simp only [if_neg hji, if_neg (show j + 1 ≠ i by omega)] at hk ⊢
        obtain ⟨b1, b2⟩ := h2 j (by omega) hj2 hk
        exact ⟨b1, fun q hq => b2 q (List.mem_cons_of_mem _ hq)⟩
end rp
end Lg
