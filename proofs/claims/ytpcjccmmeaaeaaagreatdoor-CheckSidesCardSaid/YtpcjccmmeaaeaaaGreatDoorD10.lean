/- A part of the proof of A value passes the const and the one-element enum of itself; numbers pass minimum, maximum, const as they stand to each other; a doubled list is not unique.: W16 W18 W19 W20 W17 W21 W22 D7 Sh5 P1 Lc6 Lc7 Lg60 Lc8 Lc12 Lc13 D8 D9. -/
import Derived.Test.YtpcjccmmeaaeaaaGreatDoorD9
import Derived.Test.YtpcjccmmeaaeaaaGreatDoorD8
import Derived.Test.YtpcjccmmeaaeaaaGreatDoorD4
import Derived.Test.YtpcjccmmeaaeaaaGreatDoorD5
import Derived.Test.YtpcjccmmeaaeaaaGreatDoorD3
import Derived.Test.YtpcjccmmeaaeaaaGreatDoorD6
import Derived.Test.YtpcjccmmeaaeaaaGreatDoorD7
import Derived.Shelf.Strings.Replace
import Derived.Shelf.Strings.Split
import Derived.Shelf.Strings.Shaped
import Derived.Test.YtpcjccmmeaaeaaaGreatDoorProg
set_option linter.unusedVariables false
set_option linter.unusedSimpArgs false
set_option linter.unusedSectionVars false
set_option maxRecDepth 20000
set_option maxHeartbeats 4000000
namespace Lg
open Go Go.Proofs Go.RowKit
variable [GLay] 
theorem unq_c (s : ByteArray) (a : Int) (σ : List AO) (hs : s.size ≤ 1000000) : ACalls Tryz.prog 100 [.str s, .int .i64 a] σ (Ret (.tup [.str (rUnq s a).s, .int .i64 (rUnq s a).n, .int .i64 (rUnq s a).bad, .int .i64 (rUnq s a).at_]) σ) := by
 refine ACalls_body Tryz.func100 rfl Tryz.ntmps100 (res4 Tryz.results100) (Nat.le_of_ble_eq_true rfl) (fun hcl hal => ?_)
 refine zw4 ?_
 refine AWp_seq ?_
 refine zsr ?_
 have hz : (e0).size = 0 := rfl
 refine zg3 ?_
 refine zsp 21 rfl (fun h1 => ?_) fun h1 => ?_
 ·rw [h1]; (try simp only [decide_eq_true_eq, decide_eq_false_iff_not, Bool.not_eq_true', Bool.not_eq_false', Int.not_lt, Int.not_le, Bool.not_true, Bool.not_false, Int.toNat_natCast, tn1, tn2, tnn, bne_iff_ne, beq_iff_eq, beq_eq_false_iff_ne, ne_eq, Decidable.not_not] at h1)
  refine zv5 ?_
  refine AWp_condT rfl ?_
  refine zw5 ?_
  refine zrt ?_
  have hE : rUnq s a = ⟨e0, 0, 1, a⟩ := by unfold rUnq; rw [if_pos (by omega)]
  rw [hE]; exact ResQ_40 rfl rfl rfl rfl hcl (by simp [AV.lt, AV.ltL]) (Ret_of rfl)
 ·rw [h1]; (try simp only [decide_eq_true_eq, decide_eq_false_iff_not, Bool.not_eq_true', Bool.not_eq_false', Int.not_lt, Int.not_le, Bool.not_true, Bool.not_false, Int.toNat_natCast, tn1, tn2, tnn, bne_iff_ne, beq_iff_eq, beq_eq_false_iff_ne, ne_eq, Decidable.not_not] at h1)
  refine zv5 ?_
  refine AWp_cond rfl (fun h2 => ?_) (fun h2 => ?_)
  ·(try rw [h2]); (try simp only [decide_eq_true_eq, decide_eq_false_iff_not, Bool.not_eq_true', Bool.not_eq_false', Int.not_lt, Int.not_le, Bool.not_true, Bool.not_false, Int.toNat_natCast, tn1, tn2, tnn, bne_iff_ne, beq_iff_eq, beq_eq_false_iff_ne, ne_eq, Decidable.not_not] at h2)
   refine zw5 ?_
   refine zrt ?_
   have hE : rUnq s a = ⟨e0, 0, 1, a⟩ := by unfold rUnq; rw [if_pos (by omega)]
   rw [hE]; exact ResQ_40 rfl rfl rfl rfl hcl (by simp [AV.lt, AV.ltL]) (Ret_of rfl)
  ·(try rw [h2]); (try simp only [decide_eq_true_eq, decide_eq_false_iff_not, Bool.not_eq_true', Bool.not_eq_false', Int.not_lt, Int.not_le, Bool.not_true, Bool.not_false, Int.toNat_natCast, tn1, tn2, tnn, bne_iff_ne, beq_iff_eq, beq_eq_false_iff_ne, ne_eq, Decidable.not_not] at h2)
   refine AWp_skip ?_
   refine AWp_seq ?_
   refine zw4 ?_
   refine AWp_cond rfl (fun h3 => ?_) (fun h3 => ?_)
   ·(try rw [h3]); (try simp only [decide_eq_true_eq, decide_eq_false_iff_not, Bool.not_eq_true', Bool.not_eq_false', Int.not_lt, Int.not_le, Bool.not_true, Bool.not_false, Int.toNat_natCast, tn1, tn2, tnn, bne_iff_ne, beq_iff_eq, beq_eq_false_iff_ne, ne_eq, Decidable.not_not] at h3)
    refine zw5 ?_
    refine zrt ?_
    have hE : rUnq s a = ⟨e0, 0, 1, a⟩ := by unfold rUnq; rw [if_neg (by omega), if_pos (by omega)]
    rw [hE]; exact ResQ_40 rfl rfl rfl rfl hcl (by simp [AV.lt, AV.ltL]) (Ret_of rfl)
   ·(try rw [h3]); (try simp only [decide_eq_true_eq, decide_eq_false_iff_not, Bool.not_eq_true', Bool.not_eq_false', Int.not_lt, Int.not_le, Bool.not_true, Bool.not_false, Int.toNat_natCast, tn1, tn2, tnn, bne_iff_ne, beq_iff_eq, beq_eq_false_iff_ne, ne_eq, Decidable.not_not] at h3)
    refine AWp_skip ?_
    refine zw1 ?_
    refine zw3 ?_
    refine AWp_seq ?_
    refine AWp_block ?_
    -- loop 0 LIVE 0:param 1:param 4:assign 5:assign 6:assign 7:assign 8:assign 9:assign
    refine AWp_loop (ι := Nat × ByteArray) (fun q => unqF s a.toNat q.1 q.2 = rUnq s a ∧ a.toNat < q.1 ∧ q.1 ≤ s.size ∧ q.2.size ≤ q.1) (fun q => ⟨[], [(0, .str s), (1, .int .i64 a), (8, .str q.2), (9, .int .i64 (q.1 : Int))]⟩) (fun q => σ) (fun q => s.size - q.1) ((a.toNat + 1, e0)) (⟨by unfold rUnq; rw [if_neg (by omega), if_neg (by omega)], by simp only; omega, by simp only; omega, by simp only; omega⟩) ?_ rfl (fun q hq => ?_)
    ·refine ⟨rfl, rfl, rfl, rfl, ?_, trivial⟩
     simp only [Int.natCast_add, Int.toNat_of_nonneg (show 0 ≤ a by omega)]; rfl
    obtain ⟨i, out⟩ := q
    obtain ⟨hq1, hq2, hq3, hq4⟩ := hq
    simp only at hq1 hq2 hq3 hq4 ⊢
    have hbl := bat_lt s i
    refine AWp_seq ?_
    refine zw4 ?_
    refine AWp_cond rfl (fun h4 => ?_) (fun h4 => ?_)
    ·(try rw [h4]); (try simp only [decide_eq_true_eq, decide_eq_false_iff_not, Bool.not_eq_true', Bool.not_eq_false', Int.not_lt, Int.not_le, Bool.not_true, Bool.not_false, Int.toNat_natCast, tn1, tn2, tnn, bne_iff_ne, beq_iff_eq, beq_eq_false_iff_ne, ne_eq, Decidable.not_not] at h4)
     refine AWp_skip ?_
     refine AWp_block ?_
     refine zu3 ?_
     simp only [Int.toNat_natCast]
     refine zv1 ?_
     refine AWp_seq ?_
     refine zw2 ?_
     refine AWp_cond rfl (fun h5 => ?_) (fun h5 => ?_)
     ·(try rw [h5]); (try simp only [decide_eq_true_eq, decide_eq_false_iff_not, Bool.not_eq_true', Bool.not_eq_false', Int.not_lt, Int.not_le, Bool.not_true, Bool.not_false, Int.toNat_natCast, tn1, tn2, tnn, bne_iff_ne, beq_iff_eq, beq_eq_false_iff_ne, ne_eq, Decidable.not_not] at h5)
      refine zw9 ?_
      refine zrt ?_
      first | (exfalso; omega; done) | (rw [← hq1, unqF_q (by omega) (by omega)]; exact ResQ_40 rfl rfl rfl rfl hcl (by simp [AV.lt, AV.ltL]) (Ret_of (by dsimp only; rw [Int.toNat_of_nonneg (show 0 ≤ a by omega)]))) | (rw [← hq1, unqF_ctl (by omega) (by omega)]; exact ResQ_40 rfl rfl rfl rfl hcl (by simp [AV.lt, AV.ltL]) (Ret_of rfl)) | (rw [← hq1, unqF_bad (by omega) (by omega) (by omega) (by omega) (by omega)]; exact ResQ_40 rfl rfl rfl rfl hcl (by simp [AV.lt, AV.ltL]) (Ret_of rfl)) | (rw [← hq1, unqF_last (by omega) (by omega)]; exact ResQ_40 rfl rfl rfl rfl hcl (by simp [AV.lt, AV.ltL]) (Ret_of rfl)) | (rw [← hq1, unqF_hb (by omega) (by omega) (by omega) (by omega)]; exact ResQ_40 rfl rfl rfl rfl hcl (by simp [AV.lt, AV.ltL]) (Ret_of rfl)) | (rw [← hq1, unqF_sur (by omega) (by omega) (by omega) (by omega) (by omega) (by omega)]; exact ResQ_40 rfl rfl rfl rfl hcl (by simp [AV.lt, AV.ltL]) (Ret_of rfl)) | (rw [← hq1, unqF_eb (by omega) (by omega) (by omega) (by assumption)]; exact ResQ_40 rfl rfl rfl rfl hcl (by simp [AV.lt, AV.ltL]) (Ret_of rfl)) | (rw [← hq1, unqF_end (by omega)]; exact ResQ_40 rfl rfl rfl rfl hcl (by simp [AV.lt, AV.ltL]) (Ret_of rfl))
     ·(try rw [h5]); (try simp only [decide_eq_true_eq, decide_eq_false_iff_not, Bool.not_eq_true', Bool.not_eq_false', Int.not_lt, Int.not_le, Bool.not_true, Bool.not_false, Int.toNat_natCast, tn1, tn2, tnn, bne_iff_ne, beq_iff_eq, beq_eq_false_iff_ne, ne_eq, Decidable.not_not] at h5)
      refine AWp_skip ?_
      refine AWp_seq ?_
      refine zw2 ?_
      refine AWp_cond rfl (fun h6 => ?_) (fun h6 => ?_)
      ·(try rw [h6]); (try simp only [decide_eq_true_eq, decide_eq_false_iff_not, Bool.not_eq_true', Bool.not_eq_false', Int.not_lt, Int.not_le, Bool.not_true, Bool.not_false, Int.toNat_natCast, tn1, tn2, tnn, bne_iff_ne, beq_iff_eq, beq_eq_false_iff_ne, ne_eq, Decidable.not_not] at h6)
       refine zw5 ?_
       refine zrt ?_
       first | (exfalso; omega; done) | (rw [← hq1, unqF_q (by omega) (by omega)]; exact ResQ_40 rfl rfl rfl rfl hcl (by simp [AV.lt, AV.ltL]) (Ret_of (by dsimp only; rw [Int.toNat_of_nonneg (show 0 ≤ a by omega)]))) | (rw [← hq1, unqF_ctl (by omega) (by omega)]; exact ResQ_40 rfl rfl rfl rfl hcl (by simp [AV.lt, AV.ltL]) (Ret_of rfl)) | (rw [← hq1, unqF_bad (by omega) (by omega) (by omega) (by omega) (by omega)]; exact ResQ_40 rfl rfl rfl rfl hcl (by simp [AV.lt, AV.ltL]) (Ret_of rfl)) | (rw [← hq1, unqF_last (by omega) (by omega)]; exact ResQ_40 rfl rfl rfl rfl hcl (by simp [AV.lt, AV.ltL]) (Ret_of rfl)) | (rw [← hq1, unqF_hb (by omega) (by omega) (by omega) (by omega)]; exact ResQ_40 rfl rfl rfl rfl hcl (by simp [AV.lt, AV.ltL]) (Ret_of rfl)) | (rw [← hq1, unqF_sur (by omega) (by omega) (by omega) (by omega) (by omega) (by omega)]; exact ResQ_40 rfl rfl rfl rfl hcl (by simp [AV.lt, AV.ltL]) (Ret_of rfl)) | (rw [← hq1, unqF_eb (by omega) (by omega) (by omega) (by assumption)]; exact ResQ_40 rfl rfl rfl rfl hcl (by simp [AV.lt, AV.ltL]) (Ret_of rfl)) | (rw [← hq1, unqF_end (by omega)]; exact ResQ_40 rfl rfl rfl rfl hcl (by simp [AV.lt, AV.ltL]) (Ret_of rfl))
      ·(try rw [h6]); (try simp only [decide_eq_true_eq, decide_eq_false_iff_not, Bool.not_eq_true', Bool.not_eq_false', Int.not_lt, Int.not_le, Bool.not_true, Bool.not_false, Int.toNat_natCast, tn1, tn2, tnn, bne_iff_ne, beq_iff_eq, beq_eq_false_iff_ne, ne_eq, Decidable.not_not] at h6)
       refine AWp_skip ?_
       refine AWp_seq ?_
       refine zw2 ?_
       refine AWp_cond rfl (fun h7 => ?_) (fun h7 => ?_)
       ·(try rw [h7]); (try simp only [decide_eq_true_eq, decide_eq_false_iff_not, Bool.not_eq_true', Bool.not_eq_false', Int.not_lt, Int.not_le, Bool.not_true, Bool.not_false, Int.toNat_natCast, tn1, tn2, tnn, bne_iff_ne, beq_iff_eq, beq_eq_false_iff_ne, ne_eq, Decidable.not_not] at h7)
        refine zsr ?_
        have hu := u8_le (s := s) (a := i) (by omega)
        refine zg2 ?_
        refine zt rfl (zc rfl (utf8_c s (i : Int) _ (by omega) (by omega) (by omega))) ?_
        simp only [Int.toNat_natCast]
        refine zv1 ?_
        refine AWp_seq ?_
        refine zw2 ?_
        refine AWp_cond rfl (fun h8 => ?_) (fun h8 => ?_)
        ·(try rw [h8]); (try simp only [decide_eq_true_eq, decide_eq_false_iff_not, Bool.not_eq_true', Bool.not_eq_false', Int.not_lt, Int.not_le, Bool.not_true, Bool.not_false, Int.toNat_natCast, tn1, tn2, tnn, bne_iff_ne, beq_iff_eq, beq_eq_false_iff_ne, ne_eq, Decidable.not_not] at h8)
         refine zw5 ?_
         refine zrt ?_
         first | (exfalso; omega; done) | (rw [← hq1, unqF_q (by omega) (by omega)]; exact ResQ_40 rfl rfl rfl rfl hcl (by simp [AV.lt, AV.ltL]) (Ret_of (by dsimp only; rw [Int.toNat_of_nonneg (show 0 ≤ a by omega)]))) | (rw [← hq1, unqF_ctl (by omega) (by omega)]; exact ResQ_40 rfl rfl rfl rfl hcl (by simp [AV.lt, AV.ltL]) (Ret_of rfl)) | (rw [← hq1, unqF_bad (by omega) (by omega) (by omega) (by omega) (by omega)]; exact ResQ_40 rfl rfl rfl rfl hcl (by simp [AV.lt, AV.ltL]) (Ret_of rfl)) | (rw [← hq1, unqF_last (by omega) (by omega)]; exact ResQ_40 rfl rfl rfl rfl hcl (by simp [AV.lt, AV.ltL]) (Ret_of rfl)) | (rw [← hq1, unqF_hb (by omega) (by omega) (by omega) (by omega)]; exact ResQ_40 rfl rfl rfl rfl hcl (by simp [AV.lt, AV.ltL]) (Ret_of rfl)) | (rw [← hq1, unqF_sur (by omega) (by omega) (by omega) (by omega) (by omega) (by omega)]; exact ResQ_40 rfl rfl rfl rfl hcl (by simp [AV.lt, AV.ltL]) (Ret_of rfl)) | (rw [← hq1, unqF_eb (by omega) (by omega) (by omega) (by assumption)]; exact ResQ_40 rfl rfl rfl rfl hcl (by simp [AV.lt, AV.ltL]) (Ret_of rfl)) | (rw [← hq1, unqF_end (by omega)]; exact ResQ_40 rfl rfl rfl rfl hcl (by simp [AV.lt, AV.ltL]) (Ret_of rfl))
        ·(try rw [h8]); (try simp only [decide_eq_true_eq, decide_eq_false_iff_not, Bool.not_eq_true', Bool.not_eq_false', Int.not_lt, Int.not_le, Bool.not_true, Bool.not_false, Int.toNat_natCast, tn1, tn2, tnn, bne_iff_ne, beq_iff_eq, beq_eq_false_iff_ne, ne_eq, Decidable.not_not] at h8)
         refine AWp_skip ?_
         refine zu7 ?_
         simp only [Int.toNat_natCast, tnn]
         have hxs : (s.extract i (i + u8 s i)).size ≤ s.size := by rw [ByteArray.size_extract]; omega
         refine zv2 ?_
         refine zw4 ?_
         refine AWp_exit ?_
         first | exact ⟨(i + u8 s i, out ++ s.extract i (i + u8 s i)), σ.length, ⟨by rw [← hq1]; exact (unqF_plain (by omega) (by omega) (by omega) (by omega) (by omega)).symm, by simp only; omega, by simp only; omega, by simp only [ByteArray.size_append, ByteArray.size_extract]; omega⟩, by simp only; omega, Nat.le_refl _, ⟨rfl, rfl, rfl, rfl, rfl, trivial⟩, hcl, by simp [ltE, AV.lt], List.take_length⟩ | exact ⟨(i + 12, out ++ rchar (65536 + 1024 * ((rhex s (i + 2)).1 - 55296) + rlow s (i + 6) - 56320)), σ.length, ⟨by rw [← hq1]; exact (unqF_pair (by omega) (by omega) (by omega) (by omega) (by omega)).symm, by simp only; omega, by simp only; omega, by simp only [ByteArray.size_append, ByteArray.size_extract]; omega⟩, by simp only; omega, Nat.le_refl _, ⟨rfl, rfl, rfl, rfl, rfl, trivial⟩, hcl, by simp [ltE, AV.lt], List.take_length⟩ | exact ⟨(i + 6, out ++ rchar (rhex s (i + 2)).1), σ.length, ⟨by rw [← hq1]; exact (unqF_u (by omega) (by omega) (by omega) (by omega) (by omega) (by omega)).symm, by simp only; omega, by simp only; omega, by simp only [ByteArray.size_append, ByteArray.size_extract]; omega⟩, by simp only; omega, Nat.le_refl _, ⟨rfl, rfl, rfl, rfl, rfl, trivial⟩, hcl, by simp [ltE, AV.lt], List.take_length⟩ | exact ⟨(i + 2, out ++ ⟨#[UInt8.ofNat b]⟩), σ.length, ⟨by rw [← hq1]; exact (unqF_e (by omega) (by omega) (by omega) hb).symm, by simp only; omega, by simp only; omega, by simp only [ByteArray.size_append, ByteArray.size_extract]; omega⟩, by simp only; omega, Nat.le_refl _, ⟨rfl, rfl, rfl, by rw [escK_all, hb]; rfl, rfl, trivial⟩, hcl, by simp [ltE, AV.lt], List.take_length⟩
       ·(try rw [h7]); (try simp only [decide_eq_true_eq, decide_eq_false_iff_not, Bool.not_eq_true', Bool.not_eq_false', Int.not_lt, Int.not_le, Bool.not_true, Bool.not_false, Int.toNat_natCast, tn1, tn2, tnn, bne_iff_ne, beq_iff_eq, beq_eq_false_iff_ne, ne_eq, Decidable.not_not] at h7)
        refine AWp_skip ?_
        refine AWp_seq ?_
        refine zw5 ?_
        refine AWp_cond rfl (fun h9 => ?_) (fun h9 => ?_)
        ·(try rw [h9]); (try simp only [decide_eq_true_eq, decide_eq_false_iff_not, Bool.not_eq_true', Bool.not_eq_false', Int.not_lt, Int.not_le, Bool.not_true, Bool.not_false, Int.toNat_natCast, tn1, tn2, tnn, bne_iff_ne, beq_iff_eq, beq_eq_false_iff_ne, ne_eq, Decidable.not_not] at h9)
         refine zw6 ?_
         refine zrt ?_
         first | (exfalso; omega; done) | (rw [← hq1, unqF_q (by omega) (by omega)]; exact ResQ_40 rfl rfl rfl rfl hcl (by simp [AV.lt, AV.ltL]) (Ret_of (by dsimp only; rw [Int.toNat_of_nonneg (show 0 ≤ a by omega)]))) | (rw [← hq1, unqF_ctl (by omega) (by omega)]; exact ResQ_40 rfl rfl rfl rfl hcl (by simp [AV.lt, AV.ltL]) (Ret_of rfl)) | (rw [← hq1, unqF_bad (by omega) (by omega) (by omega) (by omega) (by omega)]; exact ResQ_40 rfl rfl rfl rfl hcl (by simp [AV.lt, AV.ltL]) (Ret_of rfl)) | (rw [← hq1, unqF_last (by omega) (by omega)]; exact ResQ_40 rfl rfl rfl rfl hcl (by simp [AV.lt, AV.ltL]) (Ret_of rfl)) | (rw [← hq1, unqF_hb (by omega) (by omega) (by omega) (by omega)]; exact ResQ_40 rfl rfl rfl rfl hcl (by simp [AV.lt, AV.ltL]) (Ret_of rfl)) | (rw [← hq1, unqF_sur (by omega) (by omega) (by omega) (by omega) (by omega) (by omega)]; exact ResQ_40 rfl rfl rfl rfl hcl (by simp [AV.lt, AV.ltL]) (Ret_of rfl)) | (rw [← hq1, unqF_eb (by omega) (by omega) (by omega) (by assumption)]; exact ResQ_40 rfl rfl rfl rfl hcl (by simp [AV.lt, AV.ltL]) (Ret_of rfl)) | (rw [← hq1, unqF_end (by omega)]; exact ResQ_40 rfl rfl rfl rfl hcl (by simp [AV.lt, AV.ltL]) (Ret_of rfl))
        ·(try rw [h9]); (try simp only [decide_eq_true_eq, decide_eq_false_iff_not, Bool.not_eq_true', Bool.not_eq_false', Int.not_lt, Int.not_le, Bool.not_true, Bool.not_false, Int.toNat_natCast, tn1, tn2, tnn, bne_iff_ne, beq_iff_eq, beq_eq_false_iff_ne, ne_eq, Decidable.not_not] at h9)
         refine AWp_skip ?_
         refine AWp_seq ?_
         refine zu4 ?_
         simp only [tn1]
         refine zv1 ?_
         refine AWp_cond rfl (fun h10 => ?_) (fun h10 => ?_)
         ·(try rw [h10]); (try simp only [decide_eq_true_eq, decide_eq_false_iff_not, Bool.not_eq_true', Bool.not_eq_false', Int.not_lt, Int.not_le, Bool.not_true, Bool.not_false, Int.toNat_natCast, tn1, tn2, tnn, bne_iff_ne, beq_iff_eq, beq_eq_false_iff_ne, ne_eq, Decidable.not_not] at h10)
          refine zsr ?_
          have hx := rhex_ok s (i + 2)
          have hlw := rlow_ok s (i + 6)
          have hc1 := rchar_size (65536 + 1024 * ((rhex s (i + 2)).1 - 55296) + rlow s (i + 6) - 56320)
          have hc2 := rchar_size (rhex s (i + 2)).1
          refine zg3 ?_
          refine zt rfl (zc rfl (hex_c s (i + 2) _ hs (by omega))) ?_
          refine zv5 ?_
          refine AWp_seq ?_
          refine zw2 ?_
          refine AWp_cond rfl (fun h11 => ?_) (fun h11 => ?_)
          ·(try rw [h11]); (try simp only [decide_eq_true_eq, decide_eq_false_iff_not, Bool.not_eq_true', Bool.not_eq_false', Int.not_lt, Int.not_le, Bool.not_true, Bool.not_false, Int.toNat_natCast, tn1, tn2, tnn, bne_iff_ne, beq_iff_eq, beq_eq_false_iff_ne, ne_eq, Decidable.not_not] at h11)
           refine zw5 ?_
           refine zrt ?_
           first | (exfalso; omega; done) | (rw [← hq1, unqF_q (by omega) (by omega)]; exact ResQ_40 rfl rfl rfl rfl hcl (by simp [AV.lt, AV.ltL]) (Ret_of (by dsimp only; rw [Int.toNat_of_nonneg (show 0 ≤ a by omega)]))) | (rw [← hq1, unqF_ctl (by omega) (by omega)]; exact ResQ_40 rfl rfl rfl rfl hcl (by simp [AV.lt, AV.ltL]) (Ret_of rfl)) | (rw [← hq1, unqF_bad (by omega) (by omega) (by omega) (by omega) (by omega)]; exact ResQ_40 rfl rfl rfl rfl hcl (by simp [AV.lt, AV.ltL]) (Ret_of rfl)) | (rw [← hq1, unqF_last (by omega) (by omega)]; exact ResQ_40 rfl rfl rfl rfl hcl (by simp [AV.lt, AV.ltL]) (Ret_of rfl)) | (rw [← hq1, unqF_hb (by omega) (by omega) (by omega) (by omega)]; exact ResQ_40 rfl rfl rfl rfl hcl (by simp [AV.lt, AV.ltL]) (Ret_of rfl)) | (rw [← hq1, unqF_sur (by omega) (by omega) (by omega) (by omega) (by omega) (by omega)]; exact ResQ_40 rfl rfl rfl rfl hcl (by simp [AV.lt, AV.ltL]) (Ret_of rfl)) | (rw [← hq1, unqF_eb (by omega) (by omega) (by omega) (by assumption)]; exact ResQ_40 rfl rfl rfl rfl hcl (by simp [AV.lt, AV.ltL]) (Ret_of rfl)) | (rw [← hq1, unqF_end (by omega)]; exact ResQ_40 rfl rfl rfl rfl hcl (by simp [AV.lt, AV.ltL]) (Ret_of rfl))
          ·(try rw [h11]); (try simp only [decide_eq_true_eq, decide_eq_false_iff_not, Bool.not_eq_true', Bool.not_eq_false', Int.not_lt, Int.not_le, Bool.not_true, Bool.not_false, Int.toNat_natCast, tn1, tn2, tnn, bne_iff_ne, beq_iff_eq, beq_eq_false_iff_ne, ne_eq, Decidable.not_not] at h11)
           refine AWp_skip ?_
           refine zu3 ?_
           refine zt rfl (zc rfl (low_c s (i + 6) _ hs (by omega))) ?_
           refine zv1 ?_
           refine AWp_seq ?_
           refine zu3 ?_
           refine zsp 99 rfl (fun h12 => ?_) fun h12 => ?_
           ·rw [h12]; (try simp only [decide_eq_true_eq, decide_eq_false_iff_not, Bool.not_eq_true', Bool.not_eq_false', Int.not_lt, Int.not_le, Bool.not_true, Bool.not_false, Int.toNat_natCast, tn1, tn2, tnn, bne_iff_ne, beq_iff_eq, beq_eq_false_iff_ne, ne_eq, Decidable.not_not] at h12)
            refine zg4 ?_
            refine zsp 103 rfl (fun h13 => ?_) fun h13 => ?_
            ·rw [h13]; (try simp only [decide_eq_true_eq, decide_eq_false_iff_not, Bool.not_eq_true', Bool.not_eq_false', Int.not_lt, Int.not_le, Bool.not_true, Bool.not_false, Int.toNat_natCast, tn1, tn2, tnn, bne_iff_ne, beq_iff_eq, beq_eq_false_iff_ne, ne_eq, Decidable.not_not] at h13)
             refine zv3 ?_
             refine AWp_cond rfl (fun h14 => ?_) (fun h14 => ?_)
             ·(try rw [h14]); (try simp only [decide_eq_true_eq, decide_eq_false_iff_not, Bool.not_eq_true', Bool.not_eq_false', Int.not_lt, Int.not_le, Bool.not_true, Bool.not_false, Int.toNat_natCast, tn1, tn2, tnn, bne_iff_ne, beq_iff_eq, beq_eq_false_iff_ne, ne_eq, Decidable.not_not] at h14)
              refine zu8 ?_
              refine zt rfl (zc rfl (char_c _ _ (by omega) (by omega))) ?_
              refine zv2 ?_
              refine zw3 ?_
              refine AWp_exit ?_
              first | exact ⟨(i + u8 s i, out ++ s.extract i (i + u8 s i)), σ.length, ⟨by rw [← hq1]; exact (unqF_plain (by omega) (by omega) (by omega) (by omega) (by omega)).symm, by simp only; omega, by simp only; omega, by simp only [ByteArray.size_append, ByteArray.size_extract]; omega⟩, by simp only; omega, Nat.le_refl _, ⟨rfl, rfl, rfl, rfl, rfl, trivial⟩, hcl, by simp [ltE, AV.lt], List.take_length⟩ | exact ⟨(i + 12, out ++ rchar (65536 + 1024 * ((rhex s (i + 2)).1 - 55296) + rlow s (i + 6) - 56320)), σ.length, ⟨by rw [← hq1]; exact (unqF_pair (by omega) (by omega) (by omega) (by omega) (by omega)).symm, by simp only; omega, by simp only; omega, by simp only [ByteArray.size_append, ByteArray.size_extract]; omega⟩, by simp only; omega, Nat.le_refl _, ⟨rfl, rfl, rfl, rfl, rfl, trivial⟩, hcl, by simp [ltE, AV.lt], List.take_length⟩ | exact ⟨(i + 6, out ++ rchar (rhex s (i + 2)).1), σ.length, ⟨by rw [← hq1]; exact (unqF_u (by omega) (by omega) (by omega) (by omega) (by omega) (by omega)).symm, by simp only; omega, by simp only; omega, by simp only [ByteArray.size_append, ByteArray.size_extract]; omega⟩, by simp only; omega, Nat.le_refl _, ⟨rfl, rfl, rfl, rfl, rfl, trivial⟩, hcl, by simp [ltE, AV.lt], List.take_length⟩ | exact ⟨(i + 2, out ++ ⟨#[UInt8.ofNat b]⟩), σ.length, ⟨by rw [← hq1]; exact (unqF_e (by omega) (by omega) (by omega) hb).symm, by simp only; omega, by simp only; omega, by simp only [ByteArray.size_append, ByteArray.size_extract]; omega⟩, by simp only; omega, Nat.le_refl _, ⟨rfl, rfl, rfl, by rw [escK_all, hb]; rfl, rfl, trivial⟩, hcl, by simp [ltE, AV.lt], List.take_length⟩
             ·(try rw [h14]); (try simp only [decide_eq_true_eq, decide_eq_false_iff_not, Bool.not_eq_true', Bool.not_eq_false', Int.not_lt, Int.not_le, Bool.not_true, Bool.not_false, Int.toNat_natCast, tn1, tn2, tnn, bne_iff_ne, beq_iff_eq, beq_eq_false_iff_ne, ne_eq, Decidable.not_not] at h14)
              refine AWp_skip ?_
              refine AWp_seq ?_
              refine zu3 ?_
              refine zsp 121 rfl (fun h15 => ?_) fun h15 => ?_
              ·rw [h15]; (try simp only [decide_eq_true_eq, decide_eq_false_iff_not, Bool.not_eq_true', Bool.not_eq_false', Int.not_lt, Int.not_le, Bool.not_true, Bool.not_false, Int.toNat_natCast, tn1, tn2, tnn, bne_iff_ne, beq_iff_eq, beq_eq_false_iff_ne, ne_eq, Decidable.not_not] at h15)
               refine zv3 ?_
               refine AWp_cond rfl (fun h16 => ?_) (fun h16 => ?_)
               ·(try rw [h16]); (try simp only [decide_eq_true_eq, decide_eq_false_iff_not, Bool.not_eq_true', Bool.not_eq_false', Int.not_lt, Int.not_le, Bool.not_true, Bool.not_false, Int.toNat_natCast, tn1, tn2, tnn, bne_iff_ne, beq_iff_eq, beq_eq_false_iff_ne, ne_eq, Decidable.not_not] at h16)
                refine zw5 ?_
                refine zrt ?_
                first | (exfalso; omega; done) | (rw [← hq1, unqF_q (by omega) (by omega)]; exact ResQ_40 rfl rfl rfl rfl hcl (by simp [AV.lt, AV.ltL]) (Ret_of (by dsimp only; rw [Int.toNat_of_nonneg (show 0 ≤ a by omega)]))) | (rw [← hq1, unqF_ctl (by omega) (by omega)]; exact ResQ_40 rfl rfl rfl rfl hcl (by simp [AV.lt, AV.ltL]) (Ret_of rfl)) | (rw [← hq1, unqF_bad (by omega) (by omega) (by omega) (by omega) (by omega)]; exact ResQ_40 rfl rfl rfl rfl hcl (by simp [AV.lt, AV.ltL]) (Ret_of rfl)) | (rw [← hq1, unqF_last (by omega) (by omega)]; exact ResQ_40 rfl rfl rfl rfl hcl (by simp [AV.lt, AV.ltL]) (Ret_of rfl)) | (rw [← hq1, unqF_hb (by omega) (by omega) (by omega) (by omega)]; exact ResQ_40 rfl rfl rfl rfl hcl (by simp [AV.lt, AV.ltL]) (Ret_of rfl)) | (rw [← hq1, unqF_sur (by omega) (by omega) (by omega) (by omega) (by omega) (by omega)]; exact ResQ_40 rfl rfl rfl rfl hcl (by simp [AV.lt, AV.ltL]) (Ret_of rfl)) | (rw [← hq1, unqF_eb (by omega) (by omega) (by omega) (by assumption)]; exact ResQ_40 rfl rfl rfl rfl hcl (by simp [AV.lt, AV.ltL]) (Ret_of rfl)) | (rw [← hq1, unqF_end (by omega)]; exact ResQ_40 rfl rfl rfl rfl hcl (by simp [AV.lt, AV.ltL]) (Ret_of rfl))
               ·(try rw [h16]); (try simp only [decide_eq_true_eq, decide_eq_false_iff_not, Bool.not_eq_true', Bool.not_eq_false', Int.not_lt, Int.not_le, Bool.not_true, Bool.not_false, Int.toNat_natCast, tn1, tn2, tnn, bne_iff_ne, beq_iff_eq, beq_eq_false_iff_ne, ne_eq, Decidable.not_not] at h16)
                refine AWp_skip ?_
                refine zu2 ?_
                refine zt rfl (zc rfl (char_c _ _ (by omega) (by omega))) ?_
                refine zv2 ?_
                refine zw3 ?_
                refine AWp_exit ?_
                first | exact ⟨(i + u8 s i, out ++ s.extract i (i + u8 s i)), σ.length, ⟨by rw [← hq1]; exact (unqF_plain (by omega) (by omega) (by omega) (by omega) (by omega)).symm, by simp only; omega, by simp only; omega, by simp only [ByteArray.size_append, ByteArray.size_extract]; omega⟩, by simp only; omega, Nat.le_refl _, ⟨rfl, rfl, rfl, rfl, rfl, trivial⟩, hcl, by simp [ltE, AV.lt], List.take_length⟩ | exact ⟨(i + 12, out ++ rchar (65536 + 1024 * ((rhex s (i + 2)).1 - 55296) + rlow s (i + 6) - 56320)), σ.length, ⟨by rw [← hq1]; exact (unqF_pair (by omega) (by omega) (by omega) (by omega) (by omega)).symm, by simp only; omega, by simp only; omega, by simp only [ByteArray.size_append, ByteArray.size_extract]; omega⟩, by simp only; omega, Nat.le_refl _, ⟨rfl, rfl, rfl, rfl, rfl, trivial⟩, hcl, by simp [ltE, AV.lt], List.take_length⟩ | exact ⟨(i + 6, out ++ rchar (rhex s (i + 2)).1), σ.length, ⟨by rw [← hq1]; exact (unqF_u (by omega) (by omega) (by omega) (by omega) (by omega) (by omega)).symm, by simp only; omega, by simp only; omega, by simp only [ByteArray.size_append, ByteArray.size_extract]; omega⟩, by simp only; omega, Nat.le_refl _, ⟨rfl, rfl, rfl, rfl, rfl, trivial⟩, hcl, by simp [ltE, AV.lt], List.take_length⟩ | exact ⟨(i + 2, out ++ ⟨#[UInt8.ofNat b]⟩), σ.length, ⟨by rw [← hq1]; exact (unqF_e (by omega) (by omega) (by omega) hb).symm, by simp only; omega, by simp only; omega, by simp only [ByteArray.size_append, ByteArray.size_extract]; omega⟩, by simp only; omega, Nat.le_refl _, ⟨rfl, rfl, rfl, by rw [escK_all, hb]; rfl, rfl, trivial⟩, hcl, by simp [ltE, AV.lt], List.take_length⟩
              ·rw [h15]; (try simp only [decide_eq_true_eq, decide_eq_false_iff_not, Bool.not_eq_true', Bool.not_eq_false', Int.not_lt, Int.not_le, Bool.not_true, Bool.not_false, Int.toNat_natCast, tn1, tn2, tnn, bne_iff_ne, beq_iff_eq, beq_eq_false_iff_ne, ne_eq, Decidable.not_not] at h15)
               refine zv3 ?_
               refine AWp_condF rfl ?_
               refine AWp_skip ?_
               refine zu2 ?_
               refine zt rfl (zc rfl (char_c _ _ (by omega) (by omega))) ?_
               refine zv2 ?_
               refine zw3 ?_
               refine AWp_exit ?_
               first | exact ⟨(i + u8 s i, out ++ s.extract i (i + u8 s i)), σ.length, ⟨by rw [← hq1]; exact (unqF_plain (by omega) (by omega) (by omega) (by omega) (by omega)).symm, by simp only; omega, by simp only; omega, by simp only [ByteArray.size_append, ByteArray.size_extract]; omega⟩, by simp only; omega, Nat.le_refl _, ⟨rfl, rfl, rfl, rfl, rfl, trivial⟩, hcl, by simp [ltE, AV.lt], List.take_length⟩ | exact ⟨(i + 12, out ++ rchar (65536 + 1024 * ((rhex s (i + 2)).1 - 55296) + rlow s (i + 6) - 56320)), σ.length, ⟨by rw [← hq1]; exact (unqF_pair (by omega) (by omega) (by omega) (by omega) (by omega)).symm, by simp only; omega, by simp only; omega, by simp only [ByteArray.size_append, ByteArray.size_extract]; omega⟩, by simp only; omega, Nat.le_refl _, ⟨rfl, rfl, rfl, rfl, rfl, trivial⟩, hcl, by simp [ltE, AV.lt], List.take_length⟩ | exact ⟨(i + 6, out ++ rchar (rhex s (i + 2)).1), σ.length, ⟨by rw [← hq1]; exact (unqF_u (by omega) (by omega) (by omega) (by omega) (by omega) (by omega)).symm, by simp only; omega, by simp only; omega, by simp only [ByteArray.size_append, ByteArray.size_extract]; omega⟩, by simp only; omega, Nat.le_refl _, ⟨rfl, rfl, rfl, rfl, rfl, trivial⟩, hcl, by simp [ltE, AV.lt], List.take_length⟩ | exact ⟨(i + 2, out ++ ⟨#[UInt8.ofNat b]⟩), σ.length, ⟨by rw [← hq1]; exact (unqF_e (by omega) (by omega) (by omega) hb).symm, by simp only; omega, by simp only; omega, by simp only [ByteArray.size_append, ByteArray.size_extract]; omega⟩, by simp only; omega, Nat.le_refl _, ⟨rfl, rfl, rfl, by rw [escK_all, hb]; rfl, rfl, trivial⟩, hcl, by simp [ltE, AV.lt], List.take_length⟩
            ·rw [h13]; (try simp only [decide_eq_true_eq, decide_eq_false_iff_not, Bool.not_eq_true', Bool.not_eq_false', Int.not_lt, Int.not_le, Bool.not_true, Bool.not_false, Int.toNat_natCast, tn1, tn2, tnn, bne_iff_ne, beq_iff_eq, beq_eq_false_iff_ne, ne_eq, Decidable.not_not] at h13)
             refine zv3 ?_
             refine AWp_condF rfl ?_
             refine AWp_skip ?_
             refine AWp_seq ?_
             refine zu3 ?_
             refine zsp 121 rfl (fun h17 => ?_) fun h17 => ?_
             ·rw [h17]; (try simp only [decide_eq_true_eq, decide_eq_false_iff_not, Bool.not_eq_true', Bool.not_eq_false', Int.not_lt, Int.not_le, Bool.not_true, Bool.not_false, Int.toNat_natCast, tn1, tn2, tnn, bne_iff_ne, beq_iff_eq, beq_eq_false_iff_ne, ne_eq, Decidable.not_not] at h17)
              refine zv3 ?_
              refine AWp_cond rfl (fun h18 => ?_) (fun h18 => ?_)
              ·(try rw [h18]); (try simp only [decide_eq_true_eq, decide_eq_false_iff_not, Bool.not_eq_true', Bool.not_eq_false', Int.not_lt, Int.not_le, Bool.not_true, Bool.not_false, Int.toNat_natCast, tn1, tn2, tnn, bne_iff_ne, beq_iff_eq, beq_eq_false_iff_ne, ne_eq, Decidable.not_not] at h18)
               refine zw5 ?_
               refine zrt ?_
               first | (exfalso; omega; done) | (rw [← hq1, unqF_q (by omega) (by omega)]; exact ResQ_40 rfl rfl rfl rfl hcl (by simp [AV.lt, AV.ltL]) (Ret_of (by dsimp only; rw [Int.toNat_of_nonneg (show 0 ≤ a by omega)]))) | (rw [← hq1, unqF_ctl (by omega) (by omega)]; exact ResQ_40 rfl rfl rfl rfl hcl (by simp [AV.lt, AV.ltL]) (Ret_of rfl)) | (rw [← hq1, unqF_bad (by omega) (by omega) (by omega) (by omega) (by omega)]; exact ResQ_40 rfl rfl rfl rfl hcl (by simp [AV.lt, AV.ltL]) (Ret_of rfl)) | (rw [← hq1, unqF_last (by omega) (by omega)]; exact ResQ_40 rfl rfl rfl rfl hcl (by simp [AV.lt, AV.ltL]) (Ret_of rfl)) | (rw [← hq1, unqF_hb (by omega) (by omega) (by omega) (by omega)]; exact ResQ_40 rfl rfl rfl rfl hcl (by simp [AV.lt, AV.ltL]) (Ret_of rfl)) | (rw [← hq1, unqF_sur (by omega) (by omega) (by omega) (by omega) (by omega) (by omega)]; exact ResQ_40 rfl rfl rfl rfl hcl (by simp [AV.lt, AV.ltL]) (Ret_of rfl)) | (rw [← hq1, unqF_eb (by omega) (by omega) (by omega) (by assumption)]; exact ResQ_40 rfl rfl rfl rfl hcl (by simp [AV.lt, AV.ltL]) (Ret_of rfl)) | (rw [← hq1, unqF_end (by omega)]; exact ResQ_40 rfl rfl rfl rfl hcl (by simp [AV.lt, AV.ltL]) (Ret_of rfl))
              ·(try rw [h18]); (try simp only [decide_eq_true_eq, decide_eq_false_iff_not, Bool.not_eq_true', Bool.not_eq_false', Int.not_lt, Int.not_le, Bool.not_true, Bool.not_false, Int.toNat_natCast, tn1, tn2, tnn, bne_iff_ne, beq_iff_eq, beq_eq_false_iff_ne, ne_eq, Decidable.not_not] at h18)
               refine AWp_skip ?_
               refine zu2 ?_
               refine zt rfl (zc rfl (char_c _ _ (by omega) (by omega))) ?_
               refine zv2 ?_
               refine zw3 ?_
               refine AWp_exit ?_
               first | exact ⟨(i + u8 s i, out ++ s.extract i (i + u8 s i)), σ.length, ⟨by rw [← hq1]; exact (unqF_plain (by omega) (by omega) (by omega) (by omega) (by omega)).symm, by simp only; omega, by simp only; omega, by simp only [ByteArray.size_append, ByteArray.size_extract]; omega⟩, by simp only; omega, Nat.le_refl _, ⟨rfl, rfl, rfl, rfl, rfl, trivial⟩, hcl, by simp [ltE, AV.lt], List.take_length⟩ | exact ⟨(i + 12, out ++ rchar (65536 + 1024 * ((rhex s (i + 2)).1 - 55296) + rlow s (i + 6) - 56320)), σ.length, ⟨by rw [← hq1]; exact (unqF_pair (by omega) (by omega) (by omega) (by omega) (by omega)).symm, by simp only; omega, by simp only; omega, by simp only [ByteArray.size_append, ByteArray.size_extract]; omega⟩, by simp only; omega, Nat.le_refl _, ⟨rfl, rfl, rfl, rfl, rfl, trivial⟩, hcl, by simp [ltE, AV.lt], List.take_length⟩ | exact ⟨(i + 6, out ++ rchar (rhex s (i + 2)).1), σ.length, ⟨by rw [← hq1]; exact (unqF_u (by omega) (by omega) (by omega) (by omega) (by omega) (by omega)).symm, by simp only; omega, by simp only; omega, by simp only [ByteArray.size_append, ByteArray.size_extract]; omega⟩, by simp only; omega, Nat.le_refl _, ⟨rfl, rfl, rfl, rfl, rfl, trivial⟩, hcl, by simp [ltE, AV.lt], List.take_length⟩ | exact ⟨(i + 2, out ++ ⟨#[UInt8.ofNat b]⟩), σ.length, ⟨by rw [← hq1]; exact (unqF_e (by omega) (by omega) (by omega) hb).symm, by simp only; omega, by simp only; omega, by simp only [ByteArray.size_append, ByteArray.size_extract]; omega⟩, by simp only; omega, Nat.le_refl _, ⟨rfl, rfl, rfl, by rw [escK_all, hb]; rfl, rfl, trivial⟩, hcl, by simp [ltE, AV.lt], List.take_length⟩
             ·rw [h17]; (try simp only [decide_eq_true_eq, decide_eq_false_iff_not, Bool.not_eq_true', Bool.not_eq_false', Int.not_lt, Int.not_le, Bool.not_true, Bool.not_false, Int.toNat_natCast, tn1, tn2, tnn, bne_iff_ne, beq_iff_eq, beq_eq_false_iff_ne, ne_eq, Decidable.not_not] at h17)
              refine zv3 ?_
              refine AWp_condF rfl ?_
              refine AWp_skip ?_
              refine zu2 ?_
              refine zt rfl (zc rfl (char_c _ _ (by omega) (by omega))) ?_
              refine zv2 ?_
              refine zw3 ?_
              refine AWp_exit ?_
              first | exact ⟨(i + u8 s i, out ++ s.extract i (i + u8 s i)), σ.length, ⟨by rw [← hq1]; exact (unqF_plain (by omega) (by omega) (by omega) (by omega) (by omega)).symm, by simp only; omega, by simp only; omega, by simp only [ByteArray.size_append, ByteArray.size_extract]; omega⟩, by simp only; omega, Nat.le_refl _, ⟨rfl, rfl, rfl, rfl, rfl, trivial⟩, hcl, by simp [ltE, AV.lt], List.take_length⟩ | exact ⟨(i + 12, out ++ rchar (65536 + 1024 * ((rhex s (i + 2)).1 - 55296) + rlow s (i + 6) - 56320)), σ.length, ⟨by rw [← hq1]; exact (unqF_pair (by omega) (by omega) (by omega) (by omega) (by omega)).symm, by simp only; omega, by simp only; omega, by simp only [ByteArray.size_append, ByteArray.size_extract]; omega⟩, by simp only; omega, Nat.le_refl _, ⟨rfl, rfl, rfl, rfl, rfl, trivial⟩, hcl, by simp [ltE, AV.lt], List.take_length⟩ | exact ⟨(i + 6, out ++ rchar (rhex s (i + 2)).1), σ.length, ⟨by rw [← hq1]; exact (unqF_u (by omega) (by omega) (by omega) (by omega) (by omega) (by omega)).symm, by simp only; omega, by simp only; omega, by simp only [ByteArray.size_append, ByteArray.size_extract]; omega⟩, by simp only; omega, Nat.le_refl _, ⟨rfl, rfl, rfl, rfl, rfl, trivial⟩, hcl, by simp [ltE, AV.lt], List.take_length⟩ | exact ⟨(i + 2, out ++ ⟨#[UInt8.ofNat b]⟩), σ.length, ⟨by rw [← hq1]; exact (unqF_e (by omega) (by omega) (by omega) hb).symm, by simp only; omega, by simp only; omega, by simp only [ByteArray.size_append, ByteArray.size_extract]; omega⟩, by simp only; omega, Nat.le_refl _, ⟨rfl, rfl, rfl, by rw [escK_all, hb]; rfl, rfl, trivial⟩, hcl, by simp [ltE, AV.lt], List.take_length⟩
           ·rw [h12]; (try simp only [decide_eq_true_eq, decide_eq_false_iff_not, Bool.not_eq_true', Bool.not_eq_false', Int.not_lt, Int.not_le, Bool.not_true, Bool.not_false, Int.toNat_natCast, tn1, tn2, tnn, bne_iff_ne, beq_iff_eq, beq_eq_false_iff_ne, ne_eq, Decidable.not_not] at h12)
            refine zv7 ?_
            refine AWp_condF rfl ?_
            refine AWp_skip ?_
            refine AWp_seq ?_
            refine zu3 ?_
            refine zsp 121 rfl (fun h19 => ?_) fun h19 => ?_
            ·rw [h19]; (try simp only [decide_eq_true_eq, decide_eq_false_iff_not, Bool.not_eq_true', Bool.not_eq_false', Int.not_lt, Int.not_le, Bool.not_true, Bool.not_false, Int.toNat_natCast, tn1, tn2, tnn, bne_iff_ne, beq_iff_eq, beq_eq_false_iff_ne, ne_eq, Decidable.not_not] at h19)
             refine zv3 ?_
             refine AWp_cond rfl (fun h20 => ?_) (fun h20 => ?_)
             ·(try rw [h20]); (try simp only [decide_eq_true_eq, decide_eq_false_iff_not, Bool.not_eq_true', Bool.not_eq_false', Int.not_lt, Int.not_le, Bool.not_true, Bool.not_false, Int.toNat_natCast, tn1, tn2, tnn, bne_iff_ne, beq_iff_eq, beq_eq_false_iff_ne, ne_eq, Decidable.not_not] at h20)
              refine zw5 ?_
              refine zrt ?_
              first | (exfalso; omega; done) | (rw [← hq1, unqF_q (by omega) (by omega)]; exact ResQ_40 rfl rfl rfl rfl hcl (by simp [AV.lt, AV.ltL]) (Ret_of (by dsimp only; rw [Int.toNat_of_nonneg (show 0 ≤ a by omega)]))) | (rw [← hq1, unqF_ctl (by omega) (by omega)]; exact ResQ_40 rfl rfl rfl rfl hcl (by simp [AV.lt, AV.ltL]) (Ret_of rfl)) | (rw [← hq1, unqF_bad (by omega) (by omega) (by omega) (by omega) (by omega)]; exact ResQ_40 rfl rfl rfl rfl hcl (by simp [AV.lt, AV.ltL]) (Ret_of rfl)) | (rw [← hq1, unqF_last (by omega) (by omega)]; exact ResQ_40 rfl rfl rfl rfl hcl (by simp [AV.lt, AV.ltL]) (Ret_of rfl)) | (rw [← hq1, unqF_hb (by omega) (by omega) (by omega) (by omega)]; exact ResQ_40 rfl rfl rfl rfl hcl (by simp [AV.lt, AV.ltL]) (Ret_of rfl)) | (rw [← hq1, unqF_sur (by omega) (by omega) (by omega) (by omega) (by omega) (by omega)]; exact ResQ_40 rfl rfl rfl rfl hcl (by simp [AV.lt, AV.ltL]) (Ret_of rfl)) | (rw [← hq1, unqF_eb (by omega) (by omega) (by omega) (by assumption)]; exact ResQ_40 rfl rfl rfl rfl hcl (by simp [AV.lt, AV.ltL]) (Ret_of rfl)) | (rw [← hq1, unqF_end (by omega)]; exact ResQ_40 rfl rfl rfl rfl hcl (by simp [AV.lt, AV.ltL]) (Ret_of rfl))
             ·(try rw [h20]); (try simp only [decide_eq_true_eq, decide_eq_false_iff_not, Bool.not_eq_true', Bool.not_eq_false', Int.not_lt, Int.not_le, Bool.not_true, Bool.not_false, Int.toNat_natCast, tn1, tn2, tnn, bne_iff_ne, beq_iff_eq, beq_eq_false_iff_ne, ne_eq, Decidable.not_not] at h20)
              refine AWp_skip ?_
              refine zu2 ?_
              refine zt rfl (zc rfl (char_c _ _ (by omega) (by omega))) ?_
              refine zv2 ?_
              refine zw3 ?_
              refine AWp_exit ?_
              first | exact ⟨(i + u8 s i, out ++ s.extract i (i + u8 s i)), σ.length, ⟨by rw [← hq1]; exact (unqF_plain (by omega) (by omega) (by omega) (by omega) (by omega)).symm, by simp only; omega, by simp only; omega, by simp only [ByteArray.size_append, ByteArray.size_extract]; omega⟩, by simp only; omega, Nat.le_refl _, ⟨rfl, rfl, rfl, rfl, rfl, trivial⟩, hcl, by simp [ltE, AV.lt], List.take_length⟩ | exact ⟨(i + 12, out ++ rchar (65536 + 1024 * ((rhex s (i + 2)).1 - 55296) + rlow s (i + 6) - 56320)), σ.length, ⟨by rw [← hq1]; exact (unqF_pair (by omega) (by omega) (by omega) (by omega) (by omega)).symm, by simp only; omega, by simp only; omega, by simp only [ByteArray.size_append, ByteArray.size_extract]; omega⟩, by simp only; omega, Nat.le_refl _, ⟨rfl, rfl, rfl, rfl, rfl, trivial⟩, hcl, by simp [ltE, AV.lt], List.take_length⟩ | exact ⟨(i + 6, out ++ rchar (rhex s (i + 2)).1), σ.length, ⟨by rw [← hq1]; exact (unqF_u (by omega) (by omega) (by omega) (by omega) (by omega) (by omega)).symm, by simp only; omega, by simp only; omega, by simp only [ByteArray.size_append, ByteArray.size_extract]; omega⟩, by simp only; omega, Nat.le_refl _, ⟨rfl, rfl, rfl, rfl, rfl, trivial⟩, hcl, by simp [ltE, AV.lt], List.take_length⟩ | exact ⟨(i + 2, out ++ ⟨#[UInt8.ofNat b]⟩), σ.length, ⟨by rw [← hq1]; exact (unqF_e (by omega) (by omega) (by omega) hb).symm, by simp only; omega, by simp only; omega, by simp only [ByteArray.size_append, ByteArray.size_extract]; omega⟩, by simp only; omega, Nat.le_refl _, ⟨rfl, rfl, rfl, by rw [escK_all, hb]; rfl, rfl, trivial⟩, hcl, by simp [ltE, AV.lt], List.take_length⟩
            ·rw [h19]; (try simp only [decide_eq_true_eq, decide_eq_false_iff_not, Bool.not_eq_true', Bool.not_eq_false', Int.not_lt, Int.not_le, Bool.not_true, Bool.not_false, Int.toNat_natCast, tn1, tn2, tnn, bne_iff_ne, beq_iff_eq, beq_eq_false_iff_ne, ne_eq, Decidable.not_not] at h19)
             refine zv3 ?_
             refine AWp_condF rfl ?_
             refine AWp_skip ?_
             refine zu2 ?_
             refine zt rfl (zc rfl (char_c _ _ (by omega) (by omega))) ?_
             refine zv2 ?_
             refine zw3 ?_
             refine AWp_exit ?_
             first | exact ⟨(i + u8 s i, out ++ s.extract i (i + u8 s i)), σ.length, ⟨by rw [← hq1]; exact (unqF_plain (by omega) (by omega) (by omega) (by omega) (by omega)).symm, by simp only; omega, by simp only; omega, by simp only [ByteArray.size_append, ByteArray.size_extract]; omega⟩, by simp only; omega, Nat.le_refl _, ⟨rfl, rfl, rfl, rfl, rfl, trivial⟩, hcl, by simp [ltE, AV.lt], List.take_length⟩ | exact ⟨(i + 12, out ++ rchar (65536 + 1024 * ((rhex s (i + 2)).1 - 55296) + rlow s (i + 6) - 56320)), σ.length, ⟨by rw [← hq1]; exact (unqF_pair (by omega) (by omega) (by omega) (by omega) (by omega)).symm, by simp only; omega, by simp only; omega, by simp only [ByteArray.size_append, ByteArray.size_extract]; omega⟩, by simp only; omega, Nat.le_refl _, ⟨rfl, rfl, rfl, rfl, rfl, trivial⟩, hcl, by simp [ltE, AV.lt], List.take_length⟩ | exact ⟨(i + 6, out ++ rchar (rhex s (i + 2)).1), σ.length, ⟨by rw [← hq1]; exact (unqF_u (by omega) (by omega) (by omega) (by omega) (by omega) (by omega)).symm, by simp only; omega, by simp only; omega, by simp only [ByteArray.size_append, ByteArray.size_extract]; omega⟩, by simp only; omega, Nat.le_refl _, ⟨rfl, rfl, rfl, rfl, rfl, trivial⟩, hcl, by simp [ltE, AV.lt], List.take_length⟩ | exact ⟨(i + 2, out ++ ⟨#[UInt8.ofNat b]⟩), σ.length, ⟨by rw [← hq1]; exact (unqF_e (by omega) (by omega) (by omega) hb).symm, by simp only; omega, by simp only; omega, by simp only [ByteArray.size_append, ByteArray.size_extract]; omega⟩, by simp only; omega, Nat.le_refl _, ⟨rfl, rfl, rfl, by rw [escK_all, hb]; rfl, rfl, trivial⟩, hcl, by simp [ltE, AV.lt], List.take_length⟩
         ·(try rw [h10]); (try simp only [decide_eq_true_eq, decide_eq_false_iff_not, Bool.not_eq_true', Bool.not_eq_false', Int.not_lt, Int.not_le, Bool.not_true, Bool.not_false, Int.toNat_natCast, tn1, tn2, tnn, bne_iff_ne, beq_iff_eq, beq_eq_false_iff_ne, ne_eq, Decidable.not_not] at h10)
          refine AWp_skip ?_
          refine zw1 ?_
          refine zsr ?_
          refine zt rfl (op_buildSlice [[_], [_], [_], [_], [_], [_], [_], [_]] rfl Tryz.underlying146 Tryz.sizeOf5 Tryz.zeroValue5 rfl (by decide) (by decide) rfl rfl rfl rfl rfl) ?_
          refine zv1 ?_
          refine zw1 ?_
          refine AWp_seq ?_
          refine zw1 ?_
          refine AWp_block ?_
          -- loop 1 LIVE 0:param 4:assign 5:assign 6:assign 7:assign 8:assign 9:assign 15:assign 16:assign 17:assign 18:assign
          refine AWp_loop (ι := Nat) (fun k => k ≤ 8) (fun k => ⟨[], [(0, .str s), (1, .int .i64 a), (8, .str (escO out (escK (bat s (i + 1)).toNat k))), (9, .int .i64 (i : Int)), (15, .str fromS), (16, .sl true 1 [[AV.int .u8 34], [AV.int .u8 92], [AV.int .u8 47], [AV.int .u8 8], [AV.int .u8 12], [AV.int .u8 10], [AV.int .u8 13], [AV.int .u8 9]]), (17, .bool (escK (bat s (i + 1)).toNat k).isSome), (18, .int .i64 (k : Int))]⟩) (fun k => σ) (fun k => 8 - k) (0) (Nat.zero_le _) ?_ rfl (fun k hk => ?_)
          ·exact ⟨rfl, rfl, rfl, rfl, rfl, rfl, rfl, rfl, rfl, trivial⟩
          have hfs : fromS.size = 8 := rfl
          have hos := escO_size out (escK (bat s (i + 1)).toNat k)
          have htb := @toB_lt k
          refine AWp_seq ?_
          refine zw4 ?_
          refine AWp_cond rfl (fun h21 => ?_) (fun h21 => ?_)
          ·(try rw [h21]); (try simp only [decide_eq_true_eq, decide_eq_false_iff_not, Bool.not_eq_true', Bool.not_eq_false', Int.not_lt, Int.not_le, Bool.not_true, Bool.not_false, Int.toNat_natCast, tn1, tn2, tnn, bne_iff_ne, beq_iff_eq, beq_eq_false_iff_ne, ne_eq, Decidable.not_not] at h21)
           refine AWp_skip ?_
           refine AWp_seq ?_
           refine AWp_block ?_
           refine AWp_seq ?_
           refine AWp_drawL #[0, 0, 3, 0, 0, 16, 56, 127] Tryz.mixed (by decide +kernel) (by decide +kernel) ?_
           refine zd7 ?_
           simp only [tn1, Int.toNat_natCast]
           refine zd1 ?_
           refine RP.nil rfl ?_
           refine AWp_cond rfl (fun h22 => ?_) (fun h22 => ?_)
           ·(try rw [h22]); (try simp only [decide_eq_true_eq, decide_eq_false_iff_not, Bool.not_eq_true', Bool.not_eq_false', Int.not_lt, Int.not_le, Bool.not_true, Bool.not_false, Int.toNat_natCast, tn1, tn2, tnn, bne_iff_ne, beq_iff_eq, beq_eq_false_iff_ne, ne_eq, Decidable.not_not] at h22)
            refine zu3 ?_
            refine zt rfl (op_indexAddr rfl Tryz.underlying146 Tryz.sizeOf5 rfl rfl (by omega) (to_row (by omega))) ?_
            simp only [Int.toNat_natCast]
            refine zg1 ?_
            refine zt rfl (op_buildSlice [[_]] rfl Tryz.underlying146 Tryz.sizeOf5 Tryz.zeroValue5 rfl (by decide) (by decide) rfl rfl rfl rfl rfl) ?_
            refine zt rfl (op_bytesStr (b := _) (m := 1) rfl Tryz.underlying146 Tryz.underlying5 Tryz.underlying9 (bs1 ⟨by omega, by omega⟩) rfl rfl) ?_
            have h1s : (ByteArray.mk #[u8b (toB k : Int)]).size = 1 := rfl
            refine zv2 ?_
            refine AWp_regL ?_
            refine zv1 ?_
            refine AWp_regL ?_
            refine zv3 ?_
            have hk8 : k < 8 := by omega
            have hhit := escK_hit (c := (bat s (i + 1)).toNat) hk8 (by omega)
            have hho := escO_hit (out := out) (c := (bat s (i + 1)).toNat) hk8 (by omega)
            refine ⟨k + 1, σ.length, by omega, by omega, Nat.le_refl _, ⟨rfl, rfl, rfl, ?_, rfl, rfl, rfl, ?_, rfl, trivial⟩, hcl, ?_, List.take_length⟩
            ·rw [← hho]; rfl
            ·rw [hhit.2]; rfl
            ·simp [ltE, AV.lt, AV.ltL, AV.ltLL]
           ·(try rw [h22]); (try simp only [decide_eq_true_eq, decide_eq_false_iff_not, Bool.not_eq_true', Bool.not_eq_false', Int.not_lt, Int.not_le, Bool.not_true, Bool.not_false, Int.toNat_natCast, tn1, tn2, tnn, bne_iff_ne, beq_iff_eq, beq_eq_false_iff_ne, ne_eq, Decidable.not_not] at h22)
            refine AWp_skip ?_
            refine AWp_regL ?_
            refine zv3 ?_
            have hk8 : k < 8 := by omega
            have hmiss := escK_miss (c := (bat s (i + 1)).toNat) hk8 (by omega)
            refine ⟨k + 1, σ.length, by omega, by omega, Nat.le_refl _, ⟨rfl, rfl, rfl, ?_, rfl, rfl, rfl, ?_, rfl, trivial⟩, hcl, ?_, List.take_length⟩
            ·rw [hmiss]; rfl
            ·rw [hmiss]; rfl
            ·simp [ltE, AV.lt, AV.ltL, AV.ltLL]
          ·(try rw [h21]); (try simp only [decide_eq_true_eq, decide_eq_false_iff_not, Bool.not_eq_true', Bool.not_eq_false', Int.not_lt, Int.not_le, Bool.not_true, Bool.not_false, Int.toNat_natCast, tn1, tn2, tnn, bne_iff_ne, beq_iff_eq, beq_eq_false_iff_ne, ne_eq, Decidable.not_not] at h21)
           refine AWp_exit ?_
           refine AWp_seq ?_
           refine zw2 ?_
           refine AWp_cond rfl (fun h23 => ?_) (fun h23 => ?_)
           ·(try rw [h23]); (try simp only [decide_eq_true_eq, decide_eq_false_iff_not, Bool.not_eq_true', Bool.not_eq_false', Int.not_lt, Int.not_le, Bool.not_true, Bool.not_false, Int.toNat_natCast, tn1, tn2, tnn, bne_iff_ne, beq_iff_eq, beq_eq_false_iff_ne, ne_eq, Decidable.not_not] at h23)
            have h8 : k = 8 := by omega
            subst h8
            rw [escK_all] at h23
            have h23 := Option.isNone_iff_eq_none.1 (by rw [← Option.not_isSome, h23]; rfl)
            refine zw6 ?_
            refine zrt ?_
            first | (exfalso; omega; done) | (rw [← hq1, unqF_q (by omega) (by omega)]; exact ResQ_40 rfl rfl rfl rfl hcl (by simp [AV.lt, AV.ltL]) (Ret_of (by dsimp only; rw [Int.toNat_of_nonneg (show 0 ≤ a by omega)]))) | (rw [← hq1, unqF_ctl (by omega) (by omega)]; exact ResQ_40 rfl rfl rfl rfl hcl (by simp [AV.lt, AV.ltL]) (Ret_of rfl)) | (rw [← hq1, unqF_bad (by omega) (by omega) (by omega) (by omega) (by omega)]; exact ResQ_40 rfl rfl rfl rfl hcl (by simp [AV.lt, AV.ltL]) (Ret_of rfl)) | (rw [← hq1, unqF_last (by omega) (by omega)]; exact ResQ_40 rfl rfl rfl rfl hcl (by simp [AV.lt, AV.ltL]) (Ret_of rfl)) | (rw [← hq1, unqF_hb (by omega) (by omega) (by omega) (by omega)]; exact ResQ_40 rfl rfl rfl rfl hcl (by simp [AV.lt, AV.ltL]) (Ret_of rfl)) | (rw [← hq1, unqF_sur (by omega) (by omega) (by omega) (by omega) (by omega) (by omega)]; exact ResQ_40 rfl rfl rfl rfl hcl (by simp [AV.lt, AV.ltL]) (Ret_of rfl)) | (rw [← hq1, unqF_eb (by omega) (by omega) (by omega) (by assumption)]; exact ResQ_40 rfl rfl rfl rfl hcl (by simp [AV.lt, AV.ltL]) (Ret_of rfl)) | (rw [← hq1, unqF_end (by omega)]; exact ResQ_40 rfl rfl rfl rfl hcl (by simp [AV.lt, AV.ltL]) (Ret_of rfl))
           ·(try rw [h23]); (try simp only [decide_eq_true_eq, decide_eq_false_iff_not, Bool.not_eq_true', Bool.not_eq_false', Int.not_lt, Int.not_le, Bool.not_true, Bool.not_false, Int.toNat_natCast, tn1, tn2, tnn, bne_iff_ne, beq_iff_eq, beq_eq_false_iff_ne, ne_eq, Decidable.not_not] at h23)
            have h8 : k = 8 := by omega
            subst h8
            rw [escK_all] at h23
            obtain ⟨b, hb⟩ := Option.isSome_iff_exists.1 h23
            have h1b : (ByteArray.mk #[UInt8.ofNat b]).size = 1 := rfl
            refine AWp_skip ?_
            refine AWp_regL ?_
            refine zv3 ?_
            first | exact ⟨(i + u8 s i, out ++ s.extract i (i + u8 s i)), σ.length, ⟨by rw [← hq1]; exact (unqF_plain (by omega) (by omega) (by omega) (by omega) (by omega)).symm, by simp only; omega, by simp only; omega, by simp only [ByteArray.size_append, ByteArray.size_extract]; omega⟩, by simp only; omega, Nat.le_refl _, ⟨rfl, rfl, rfl, rfl, rfl, trivial⟩, hcl, by simp [ltE, AV.lt], List.take_length⟩ | exact ⟨(i + 12, out ++ rchar (65536 + 1024 * ((rhex s (i + 2)).1 - 55296) + rlow s (i + 6) - 56320)), σ.length, ⟨by rw [← hq1]; exact (unqF_pair (by omega) (by omega) (by omega) (by omega) (by omega)).symm, by simp only; omega, by simp only; omega, by simp only [ByteArray.size_append, ByteArray.size_extract]; omega⟩, by simp only; omega, Nat.le_refl _, ⟨rfl, rfl, rfl, rfl, rfl, trivial⟩, hcl, by simp [ltE, AV.lt], List.take_length⟩ | exact ⟨(i + 6, out ++ rchar (rhex s (i + 2)).1), σ.length, ⟨by rw [← hq1]; exact (unqF_u (by omega) (by omega) (by omega) (by omega) (by omega) (by omega)).symm, by simp only; omega, by simp only; omega, by simp only [ByteArray.size_append, ByteArray.size_extract]; omega⟩, by simp only; omega, Nat.le_refl _, ⟨rfl, rfl, rfl, rfl, rfl, trivial⟩, hcl, by simp [ltE, AV.lt], List.take_length⟩ | exact ⟨(i + 2, out ++ ⟨#[UInt8.ofNat b]⟩), σ.length, ⟨by rw [← hq1]; exact (unqF_e (by omega) (by omega) (by omega) hb).symm, by simp only; omega, by simp only; omega, by simp only [ByteArray.size_append, ByteArray.size_extract]; omega⟩, by simp only; omega, Nat.le_refl _, ⟨rfl, rfl, rfl, by rw [escK_all, hb]; rfl, rfl, trivial⟩, hcl, by simp [ltE, AV.lt], List.take_length⟩
    ·(try rw [h4]); (try simp only [decide_eq_true_eq, decide_eq_false_iff_not, Bool.not_eq_true', Bool.not_eq_false', Int.not_lt, Int.not_le, Bool.not_true, Bool.not_false, Int.toNat_natCast, tn1, tn2, tnn, bne_iff_ne, beq_iff_eq, beq_eq_false_iff_ne, ne_eq, Decidable.not_not] at h4)
     refine AWp_exit ?_
     refine zw6 ?_
     refine zrt ?_
     first | (exfalso; omega; done) | (rw [← hq1, unqF_q (by omega) (by omega)]; exact ResQ_40 rfl rfl rfl rfl hcl (by simp [AV.lt, AV.ltL]) (Ret_of (by dsimp only; rw [Int.toNat_of_nonneg (show 0 ≤ a by omega)]))) | (rw [← hq1, unqF_ctl (by omega) (by omega)]; exact ResQ_40 rfl rfl rfl rfl hcl (by simp [AV.lt, AV.ltL]) (Ret_of rfl)) | (rw [← hq1, unqF_bad (by omega) (by omega) (by omega) (by omega) (by omega)]; exact ResQ_40 rfl rfl rfl rfl hcl (by simp [AV.lt, AV.ltL]) (Ret_of rfl)) | (rw [← hq1, unqF_last (by omega) (by omega)]; exact ResQ_40 rfl rfl rfl rfl hcl (by simp [AV.lt, AV.ltL]) (Ret_of rfl)) | (rw [← hq1, unqF_hb (by omega) (by omega) (by omega) (by omega)]; exact ResQ_40 rfl rfl rfl rfl hcl (by simp [AV.lt, AV.ltL]) (Ret_of rfl)) | (rw [← hq1, unqF_sur (by omega) (by omega) (by omega) (by omega) (by omega) (by omega)]; exact ResQ_40 rfl rfl rfl rfl hcl (by simp [AV.lt, AV.ltL]) (Ret_of rfl)) | (rw [← hq1, unqF_eb (by omega) (by omega) (by omega) (by assumption)]; exact ResQ_40 rfl rfl rfl rfl hcl (by simp [AV.lt, AV.ltL]) (Ret_of rfl)) | (rw [← hq1, unqF_end (by omega)]; exact ResQ_40 rfl rfl rfl rfl hcl (by simp [AV.lt, AV.ltL]) (Ret_of rfl))
end Lg
set_option maxRecDepth 20000
set_option maxHeartbeats 4000000
namespace Lg
open Go Go.Proofs Go.RowKit
variable [GLay] 
theorem fail_r (s : ByteArray) (r : RS) (p : Nat) (σ : List AO) (hσ : σ[p]? = some (rbox s r)) (a b : Int) : ACalls Tryz.prog 35 [.ptr p 0, .int .i64 a, .int .i64 b] σ (Ret (.tup []) (σ.set p (rbox s (rfail r a b)))) := fail_c s r.a r.deep r.bad r.spot p σ hσ a b
theorem peek_r (s : ByteArray) (r : RS) (p : Nat) (σ : List AO) (hσ : σ[p]? = some (rbox s r)) : ACalls Tryz.prog 57 [.ptr p 0] σ (Ret (.int .i64 (pkv s r.a r.bad)) σ) := peek_c s r.a r.deep r.bad r.spot p σ hσ (by omega)
theorem blank_r (s : ByteArray) (r : RS) (p : Nat) (σ : List AO) (hσ : σ[p]? = some (rbox s r)) (hs : s.size ≤ 100000) (h : ROK s r) : ACalls Tryz.prog 56 [.ptr p 0] σ (Ret (.tup []) (σ.set p (rbox s (rblank s r)))) := blank_c s r.a r.deep r.bad r.spot p σ hσ (by omega) (by have := h.a; omega)
theorem open_r (s : ByteArray) (r : RS) (p : Nat) (σ : List AO) (hσ : σ[p]? = some (rbox s r)) (hs : s.size ≤ 100000) (h : ROK s r) : ACalls Tryz.prog 99 [.ptr p 0] σ (Ret (.tup []) (σ.set p (rbox s (ropen s r)))) := open_c s r.a r.deep r.bad r.spot p σ hσ (by omega) (by have := h.a; omega) h.d0 (by have := h.d1; have := h.a; omega)
theorem want_c (lit : ByteArray) (s : ByteArray) (r : RS) (p : Nat) (σ : List AO) (hσ : σ[p]? = some (rbox s r)) (hs : s.size ≤ 100000) (hl : lit.size ≤ 1000) (h : ROK s r) : ACalls Tryz.prog 61 [.ptr p 0, .str lit] σ (Ret (.tup []) (σ.set p (rbox s (rwant s lit r)))) := by
 have hp : p < σ.length := (List.getElem?_eq_some_iff.1 hσ).1
 refine ACalls_body Tryz.func61 rfl Tryz.ntmps61 (res0 Tryz.results61) (Nat.le_of_ble_eq_true rfl) (fun hcl hal => ?_)
 refine AWp_heap (set_same hσ) ?_
 refine zw1 ?_
 refine AWp_block ?_
 -- loop 0 LIVE 0:param 1:param 4:assign
 refine AWp_loop (ι := Nat × RS) (fun q => wantF s lit q.1 q.2 = rwant s lit r ∧ ROK s q.2 ∧ q.1 ≤ lit.size) (fun q => ⟨[], [(0, .ptr p 0), (1, .str lit), (4, .int .i64 (q.1 : Int))]⟩) (fun q => σ.set p (rbox s q.2)) (fun q => lit.size - q.1) ((0, r)) (⟨rfl, h, Nat.zero_le _⟩) ?_ rfl (fun q hq => ?_)
 ·exact ⟨rfl, rfl, rfl, rfl, trivial⟩
 obtain ⟨i, t⟩ := q
 obtain ⟨hq1, hq2, hq3⟩ := hq
 simp only at hq1 hq2 hq3 ⊢
 have ha := hq2.a
 refine AWp_seq ?_
 refine zu5 ?_
 refine zsp 9 rfl (fun h1 => ?_) fun h1 => ?_
 ·rw [h1]; (try simp only [decide_eq_true_eq, decide_eq_false_iff_not, Bool.not_eq_true', Bool.not_eq_false', Int.not_lt, Int.not_le, Bool.not_true, Bool.not_false, Int.toNat_natCast, tn1, tn2, tnn, bne_iff_ne, beq_iff_eq, beq_eq_false_iff_ne, ne_eq, Decidable.not_not] at h1)
  refine zv6 ?_
  refine AWp_cond rfl (fun h2 => ?_) (fun h2 => ?_)
  ·(try rw [h2]); (try simp only [decide_eq_true_eq, decide_eq_false_iff_not, Bool.not_eq_true', Bool.not_eq_false', Int.not_lt, Int.not_le, Bool.not_true, Bool.not_false, Int.toNat_natCast, tn1, tn2, tnn, bne_iff_ne, beq_iff_eq, beq_eq_false_iff_ne, ne_eq, Decidable.not_not] at h2)
   refine AWp_skip ?_
   refine AWp_seq ?_
   refine AWp_block ?_
   refine AWp_seq ?_
   refine AWp_seq ?_
   refine AWp_drawL #[0, 1, 0, 0, 12, 28, 63] Tryz.mixed (by decide +kernel) (by decide +kernel) ?_
   refine zd1 ?_
   refine yP rfl rfl (zc rfl (peek_r s t p _ (get_set hp))) (trivial) ?_
   refine zd3 ?_
   simp only [Int.toNat_natCast]
   have hbl := bat_lt lit i
   refine zd2 ?_
   refine RP.nil rfl ?_
   refine AWp_cond rfl (fun h3 => ?_) (fun h3 => ?_)
   ·(try rw [h3]); (try simp only [decide_eq_true_eq, decide_eq_false_iff_not, Bool.not_eq_true', Bool.not_eq_false', Int.not_lt, Int.not_le, Bool.not_true, Bool.not_false, Int.toNat_natCast, tn1, tn2, tnn, bne_iff_ne, beq_iff_eq, beq_eq_false_iff_ne, ne_eq, Decidable.not_not] at h3)
    refine AWp_regL ?_
    refine zg5 ?_
    refine zt rfl (zc rfl (callS (fail_r s t p _ (get_set hp) (t.a : Int) 1))) ?_
    have hra : (rfail t (t.a : Int) 1).a = t.a := rfl
    refine zon ?_
    refine AWp_regL ?_
    refine zv8 ?_
    refine AWp_regL ?_
    refine zv3 ?_
    have hstep : wantF s lit i t = wantF s lit (i + 1) (wstep s (bat lit i) t) := by rw [wantF.eq_1 s lit i, if_pos ⟨by omega, by omega⟩]
    have hw : wstep s (bat lit i) t = rinc (rfail t (t.a : Int) 1) := by unfold wstep; rw [if_neg (by omega)]
    refine ⟨(i + 1, wstep s (bat lit i) t), σ.length, ⟨by rw [← hq1, hstep], (wstep_to hq2 (by omega)).1.ok, by simp only; omega⟩, by simp only; omega, by simp, ⟨rfl, rfl, rfl, rfl, trivial⟩, closed_set (x := rbox s (rinc (rfail t (t.a : Int) 1))) hcl (by simp [AO.cells, AV.ltL, AV.lt]), ?_, take_set ?_⟩
    ·simp [ltE, AV.lt]; omega
    ·rw [hw]; rfl
   ·(try rw [h3]); (try simp only [decide_eq_true_eq, decide_eq_false_iff_not, Bool.not_eq_true', Bool.not_eq_false', Int.not_lt, Int.not_le, Bool.not_true, Bool.not_false, Int.toNat_natCast, tn1, tn2, tnn, bne_iff_ne, beq_iff_eq, beq_eq_false_iff_ne, ne_eq, Decidable.not_not] at h3)
    refine AWp_skip ?_
    refine AWp_regL ?_
    refine zv8 ?_
    refine AWp_regL ?_
    refine zv3 ?_
    have hstep : wantF s lit i t = wantF s lit (i + 1) (wstep s (bat lit i) t) := by rw [wantF.eq_1 s lit i, if_pos ⟨by omega, by omega⟩]
    have hw : wstep s (bat lit i) t = rinc t := by unfold wstep; rw [if_pos (by omega)]
    refine ⟨(i + 1, wstep s (bat lit i) t), σ.length, ⟨by rw [← hq1, hstep], (wstep_to hq2 (by omega)).1.ok, by simp only; omega⟩, by simp only; omega, by simp, ⟨rfl, rfl, rfl, rfl, trivial⟩, closed_set (x := rbox s (rinc t)) hcl (by simp [AO.cells, AV.ltL, AV.lt]), ?_, take_set ?_⟩
    ·simp [ltE, AV.lt]; omega
    ·rw [hw]; rfl
  ·(try rw [h2]); (try simp only [decide_eq_true_eq, decide_eq_false_iff_not, Bool.not_eq_true', Bool.not_eq_false', Int.not_lt, Int.not_le, Bool.not_true, Bool.not_false, Int.toNat_natCast, tn1, tn2, tnn, bne_iff_ne, beq_iff_eq, beq_eq_false_iff_ne, ne_eq, Decidable.not_not] at h2)
   refine AWp_exit ?_
   (try simp only [blockQ, thenQ])
   have hfin : t = rwant s lit r := by rw [← hq1, wantF, if_neg (by omega)]
   rw [← hfin]
   exact ResQ_N0 (x := rbox s t) hcl (by simp [AO.cells, AV.ltL, AV.lt]) ⟨rfl, rfl⟩
 ·rw [h1]; (try simp only [decide_eq_true_eq, decide_eq_false_iff_not, Bool.not_eq_true', Bool.not_eq_false', Int.not_lt, Int.not_le, Bool.not_true, Bool.not_false, Int.toNat_natCast, tn1, tn2, tnn, bne_iff_ne, beq_iff_eq, beq_eq_false_iff_ne, ne_eq, Decidable.not_not] at h1)
  refine zv6 ?_
  refine AWp_condF rfl ?_
  refine AWp_exit ?_
  (try simp only [blockQ, thenQ])
  have hfin : t = rwant s lit r := by rw [← hq1, wantF, if_neg (by omega)]
  rw [← hfin]
  exact ResQ_N0 (x := rbox s t) hcl (by simp [AO.cells, AV.ltL, AV.lt]) ⟨rfl, rfl⟩

theorem text_r (s : ByteArray) (r : RS) (p : Nat) (σ : List AO) (hσ : σ[p]? = some (rbox s r)) (hs : s.size ≤ 100000) (h : ROK s r) : ACalls Tryz.prog 60 [.ptr p 0] σ (Ret (.str (rtext s r).1) (σ.set p (rbox s (rtext s r).2))) := by
 have hp : p < σ.length := (List.getElem?_eq_some_iff.1 hσ).1
 have hu := rUnq_ok s r.a
 have ha := h.a
 refine ACalls_body Tryz.func60 rfl Tryz.ntmps60 (res1 Tryz.results60) (Nat.le_of_ble_eq_true rfl) (fun hcl hal => ?_)
 refine AWp_heap (set_same hσ) ?_
 refine zw1 ?_
 refine AWp_seq ?_
 refine zw5 ?_
 refine AWp_cond rfl (fun h1 => ?_) (fun h1 => ?_)
 ·(try rw [h1]); replace h1 := zcl h1
  refine zw1 ?_
  refine zrt ?_
  rw [show rtext s r = (e0, r) by unfold rtext; rw [if_neg h1]]
  exact ResQ_S0 rfl (x := rbox s r) hcl (by simp [AO.cells, AV.ltL, AV.lt]) trivial ⟨rfl, rfl⟩
 ·(try rw [h1]); replace h1 := zcl h1
  have ht : rtext s r = ((rUnq s r.a).s, ⟨r.a + (rUnq s r.a).n.toNat, r.deep, (rUnq s r.a).bad, if (rUnq s r.a).bad = 0 then r.spot else (rUnq s r.a).at_⟩) := by unfold rtext; rw [if_pos h1]
  have hc : ((r.a + (rUnq s r.a).n.toNat : Nat) : Int) = (r.a : Int) + (rUnq s r.a).n := by rcases hu with hu | hu <;> omega
  have hsz : (rUnq s r.a).n ≤ 200000 := by rcases hu with hu | hu <;> omega
  have hsz0 : 0 ≤ (rUnq s r.a).n := by rcases hu with hu | hu <;> omega
  refine AWp_skip ?_
  refine AWp_seq ?_
  refine AWp_drawL #[0, 1, 3, 7, 0, 16, 48, 112, 255, 511, 1023, 1023, 1023, 1023, 2047, 20479, 57343, 131071] Tryz.mixed (by decide +kernel) (by decide +kernel) ?_
  refine zd3 ?_
  refine zp1 ?_
  refine zd3 ?_
  refine zp1 ?_
  refine yP rfl rfl (zc rfl (unq_c s (r.a : Int) _ (by omega))) (trivial) ?_
  refine zd9 ?_
  refine RP.nil rfl ?_
  refine AWp_seq ?_
  refine zw2 ?_
  refine AWp_cond rfl (fun h2 => ?_) (fun h2 => ?_)
  ·(try rw [h2]); replace h2 := zcl h2
   have hf : rfail r (rUnq s r.a).at_ (rUnq s r.a).bad = ⟨r.a, r.deep, (rUnq s r.a).bad, (rUnq s r.a).at_⟩ := by simp [rfail, h1]
   refine AWp_regL ?_
   refine zg3 ?_
   refine zt rfl (zc rfl (callS (fail_r s r p _ (get_set hp) (rUnq s r.a).at_ (rUnq s r.a).bad))) ?_
   rw [hf]
   have hra : (RS.mk r.a r.deep (rUnq s r.a).bad (rUnq s r.a).at_).a = r.a := rfl
   refine zon ?_
   refine zsr ?_
   refine zg10 ?_
   refine zon ?_
   refine zw2 ?_
   refine zrt ?_
   rw [ht]; simp only [rbox, hc, if_neg h2]
   exact ResQ_S0 rfl (x := .box [.str s, .int .i64 ((r.a : Int) + (rUnq s r.a).n), .int .i64 r.deep, .int .i64 (rUnq s r.a).bad, .int .i64 (rUnq s r.a).at_]) hcl (by simp [AO.cells, AV.ltL, AV.lt]) trivial ⟨rfl, rfl⟩
  ·(try rw [h2]); replace h2 := zcl h2
   refine AWp_skip ?_
   refine zsr ?_
   refine zg10 ?_
   refine zon ?_
   refine zw2 ?_
   refine zrt ?_
   rw [ht]; simp only [rbox, hc, if_pos h2]
   have hb0 : (rUnq s r.a).bad = r.bad := by omega
   rw [hb0]
   exact ResQ_S0 rfl (x := .box [.str s, .int .i64 ((r.a : Int) + (rUnq s r.a).n), .int .i64 r.deep, .int .i64 r.bad, .int .i64 r.spot]) hcl (by simp [AO.cells, AV.ltL, AV.lt]) trivial ⟨rfl, rfl⟩
end Lg
set_option maxRecDepth 20000
set_option maxHeartbeats 4000000
namespace Lg
open Go Go.Proofs Go.RowKit
variable [GLay] 
theorem array_r (s : ByteArray) (n : Nat) (ih : ∀ (t : RS) (p : Nat) (τ : List AO), τ[p]? = some (rbox s t) → ROK s t → s.size + 1 < n + t.a → ACalls Tryz.prog 34 [.ptr p 0] τ (Ret (.agg (vcells (rval n s t).1)) (τ.set p (rbox s (rval n s t).2)))) (r : RS) (p : Nat) (σ : List AO) (hσ : σ[p]? = some (rbox s r)) (hs : s.size ≤ 100000) (h : ROK s r) (hb : r.bad = 0) (ha : r.a < s.size) (hn : s.size + 1 < n + r.a + 1) : ACalls Tryz.prog 59 [.ptr p 0] σ (Ret (.agg (vcells (rarr (rval n s) s r).1)) (σ.set p (rbox s (rarr (rval n s) s r).2))) := by
 have hp : p < σ.length := (List.getElem?_eq_some_iff.1 hσ).1
 have ho := ropen_to h hb ha
 have hd0 := h.d0
 have hd1 := h.d1
 refine ACalls_bodyC Tryz.func59 rfl Tryz.ntmps59 (by rw [Tryz.results59]; exact (.ck Tryz.isAgg28 Tryz.sizeOf28 .nil)) (Nat.le_of_ble_eq_true rfl) (fun hcl hal => ?_)
 refine AWp_heap (set_same hσ) ?_
 refine zw1 ?_
 refine zw3 ?_
 refine AWp_seq ?_
 refine AWp_boxLeS 1 (bs' := [.int .i64 4, .bool false, .bool false, .str e0, .int .i64 0, .str e0, .nils, .sl false 9 (mcells [])]) rfl ⟨AVle.refl _, AVle.refl _, AVle.refl _, AVle.refl _, AVle.refl _, AVle.refl _, AVle.refl _, nilM, trivial⟩ ?_
 refine AWp_ghostInS 1 6 8 2 rfl rfl rfl ?_
 refine AWp_regL ?_
 refine zg1 ?_
 refine zt rfl (zc rfl (callSA hp (open_r s r p _ (get_setA hp) hs h))) ?_
 refine zon ?_
 refine AWp_joinB (ι := List JV × RS × Nat) (fun z => rarrF (rval n s) s (s.size + 2) [] (ropen s r) = (z.1, z.2.1) ∧ ROK s z.2.1 ∧ r.a + 1 ≤ z.2.1.a) (fun z => ⟨[], [(0, .ptr p 0), (2, .ptr (σ.length + 0) 0), (3, .ptr (σ.length + 1) 0)]⟩) (fun z => σ.set p (rbox s z.2.1) ++ [.box [.int .i64 0, .bool false, .bool false, .str e0, .int .i64 0, .str e0, .nils, .nils], .box [.int .i64 4, .bool false, .bool false, .str e0, .int .i64 0, .str e0, .arr (σ.length + 2) z.2.2 8 0 z.1.length, .sl false 9 (mcells [])], .arr 8 z.2.2 (lcells z.1).flatten]) ?_ (fun z hz => ?_)
 ·skip
  -- loop 0 LIVE 0:param 2:alloc 3:alloc
  refine AWp_loop (ι := Nat × List JV × RS × Nat) (fun q => rarrF (rval n s) s q.1 q.2.1 q.2.2.1 = rarrF (rval n s) s (s.size + 2) [] (ropen s r) ∧ ROK s q.2.2.1 ∧ lsize q.2.1 ≤ q.2.2.1.a ∧ s.size + 2 ≤ q.1 + q.2.2.1.a ∧ r.a + 1 ≤ q.2.2.1.a) (fun q => ⟨[], [(0, .ptr p 0), (2, .ptr (σ.length + 0) 0), (3, .ptr (σ.length + 1) 0)]⟩) (fun q => σ.set p (rbox s q.2.2.1) ++ [.box [.int .i64 0, .bool false, .bool false, .str e0, .int .i64 0, .str e0, .nils, .nils], .box [.int .i64 4, .bool false, .bool false, .str e0, .int .i64 0, .str e0, .arr (σ.length + 2) q.2.2.2 8 0 q.2.1.length, .sl false 9 (mcells [])], .arr 8 q.2.2.2 (lcells q.2.1).flatten]) (fun q => q.1) ((s.size + 2, [], ropen s r, 0)) (⟨rfl, ho.1.ok, by simp only [lsize]; omega, by simp only; omega, ho.2.1⟩) ?_ rfl (fun q hq => ?_)
  ·exact ⟨rfl, rfl, rfl, rfl, trivial⟩
  obtain ⟨k, l, t, g⟩ := q
  obtain ⟨hq1, hq2, hq3, hq4, hq5⟩ := hq
  simp only at hq1 hq2 hq3 hq4 hq5 ⊢
  have hta := hq2.a
  have hll := llen_le l
  have hlc := lcells_length l
  obtain ⟨k, rfl⟩ : ∃ k', k = k' + 1 := ⟨k - 1, by omega⟩
  refine AWp_seq ?_
  refine zu6 ?_
  refine zsp 12 rfl (fun h1 => ?_) fun h1 => ?_
  ·rw [h1]; (try simp only [decide_eq_true_eq, decide_eq_false_iff_not, Bool.not_eq_true', Bool.not_eq_false', Int.not_lt, Int.not_le, Bool.not_true, Bool.not_false, Int.toNat_natCast, tn1, tn2, tnn, bne_iff_ne, beq_iff_eq, beq_eq_false_iff_ne, ne_eq, Decidable.not_not] at h1)
   refine zg1 ?_
   refine ztG rfl rfl (zc rfl (peek_r s t p _ (get_setA hp))) ?_
   refine zg2 ?_
   refine zsp 16 rfl (fun h2 => ?_) fun h2 => ?_
   ·rw [h2]; (try simp only [decide_eq_true_eq, decide_eq_false_iff_not, Bool.not_eq_true', Bool.not_eq_false', Int.not_lt, Int.not_le, Bool.not_true, Bool.not_false, Int.toNat_natCast, tn1, tn2, tnn, bne_iff_ne, beq_iff_eq, beq_eq_false_iff_ne, ne_eq, Decidable.not_not] at h2)
    refine zv6 ?_
    refine AWp_condT rfl ?_
    refine AWp_skip ?_
    refine AWp_block ?_
    refine AWp_seq ?_
    refine AWp_drawL #[0, 1, 0, 4, 12, 31, 63, 127] Tryz.mixed (by decide +kernel) (by decide +kernel) ?_
    refine zd1 ?_
    refine zp1 ?_
    refine zd1 ?_
    refine yE rfl rfl (zc rfl (callSA hp (ih t p _ (get_setA hp) hq2 (by omega)))) (⟨.inr (op_load1 rfl Tryz.isAgg25 (ldv_ownS rfl rfl)), trivial⟩) (trivial) ?_
    have hv := rval_ok hs n t hq2
    have hva := hv.fwd.a
    have hvk := hv.fwd.ok
    have hua := hv.fwd.ok.a
    have hvs := hv.size
    clear hv
    generalize hx1 : (rval n s t).1 = v at hvs ⊢
    generalize hx2 : (rval n s t).2 = u at hva hvk hua hvs ⊢
    have hl5 := lsize_snoc l v
    rw [vcells_eq v]
    refine yA rfl rfl (fun _ => op_buildSlice [[_, _, _, _, _, _, _, _]] rfl Tryz.underlying25 Tryz.sizeOf28 Tryz.zeroValue28 rfl (by decide) (by decide) rfl rfl rfl rfl rfl) ?_
    refine yE rfl rfl (op_appendArrT len_set 2 (sz := 8) (m := 1) (len := l.length) (cs := _) rfl (.inr ⟨_, rfl⟩) Tryz.underlying25 Tryz.underlying25 Tryz.type28 rfl rfl rfl (by decide) rfl rfl (lflat_len l).symm rfl rfl rfl (by show (l.length + 1) * 112 ≤ _; omega) (by omega) rfl) (⟨.inl rfl, trivial⟩) (⟨rfl, trivial⟩) ?_
    refine zd1 ?_
    refine yEN rfl rfl rfl (op_storeOS (r := [.int .i64 4, .bool false, .bool false, .str e0, .int .i64 0, .str e0, .arr (σ.length + 2) (g + 1) 8 0 (l.length + 1), .sl false 9 (mcells [])]) rfl Tryz.sizeOf25 rfl rfl rfl rfl rfl (by decide)) (⟨.inl rfl, trivial⟩) (⟨rfl, ⟨rfl, trivial⟩⟩) ?_
    refine RP.nil rfl ?_
    refine AWp_seq ?_
    refine zu1 ?_
    refine zt rfl (zc rfl (peek_r s u p _ (get_setA hp))) ?_
    refine zv1 ?_
    refine AWp_cond rfl (fun h3 => ?_) (fun h3 => ?_)
    ·(try rw [h3]); (try simp only [decide_eq_true_eq, decide_eq_false_iff_not, Bool.not_eq_true', Bool.not_eq_false', Int.not_lt, Int.not_le, Bool.not_true, Bool.not_false, Int.toNat_natCast, tn1, tn2, tnn, bne_iff_ne, beq_iff_eq, beq_eq_false_iff_ne, ne_eq, Decidable.not_not] at h3)
     refine AWp_exit ?_
     show ∃ z : List JV × RS × Nat, _ ∧ _ ∧ _
     first | exact ⟨(l, t, g), ⟨by rw [← hq1, rarrF, if_neg (by omega)], hq2, hq5⟩, ⟨rfl, rfl, rfl, rfl, trivial⟩, rfl⟩ | exact ⟨(l ++ [v], u, g + 1), ⟨by rw [← hq1, rarrF, if_pos ⟨by omega, by omega⟩, hx1, hx2, if_neg (by omega)], hvk, by simp only; omega⟩, ⟨rfl, rfl, rfl, rfl, trivial⟩, by rw [lcells_snoc, List.length_append, vcells_eq v]; rfl⟩
    ·(try rw [h3]); (try simp only [decide_eq_true_eq, decide_eq_false_iff_not, Bool.not_eq_true', Bool.not_eq_false', Int.not_lt, Int.not_le, Bool.not_true, Bool.not_false, Int.toNat_natCast, tn1, tn2, tnn, bne_iff_ne, beq_iff_eq, beq_eq_false_iff_ne, ne_eq, Decidable.not_not] at h3)
     refine AWp_skip ?_
     refine AWp_regL ?_
     refine zv8 ?_
     have hstep : rarrF (rval n s) s (k + 1) l t = rarrF (rval n s) s k (l ++ [v]) (rinc u) := by rw [rarrF, if_pos ⟨by omega, by omega⟩, hx1, hx2, if_pos (by omega)]
     refine ⟨(k, l ++ [v], rinc u, g + 1), σ.length + 3, ⟨by rw [← hq1, hstep], (rinc_to hvk (by omega)).ok, by simp only [rinc]; omega, by simp only [rinc]; omega, by simp only [rinc]; omega⟩, by simp only; omega, by simp, ⟨rfl, rfl, rfl, rfl, trivial⟩, closed_ownS (x := rbox s (rinc u)) 3 hcl (by simp [AO.cells, AV.ltL, AV.lt]) ?_, ?_, ?_⟩
     ·simp [ownLt, AO.cells, AV.ltL, AV.lt, ofConst1, ltL_append, lflat_lt]
     ·simp [ltE, AV.lt]; omega
     ·rw [lcells_snoc, List.length_append, vcells_eq v]; exact take_ownS 3
   ·rw [h2]; (try simp only [decide_eq_true_eq, decide_eq_false_iff_not, Bool.not_eq_true', Bool.not_eq_false', Int.not_lt, Int.not_le, Bool.not_true, Bool.not_false, Int.toNat_natCast, tn1, tn2, tnn, bne_iff_ne, beq_iff_eq, beq_eq_false_iff_ne, ne_eq, Decidable.not_not] at h2)
    refine zg2 ?_
    refine ztG rfl rfl (op_lenS rfl rfl Tryz.underlying25 rfl rfl ⟨8, _, get_ownS 2⟩) ?_
    refine zv3 ?_
    refine AWp_cond rfl (fun h4 => ?_) (fun h4 => ?_)
    ·(try rw [h4]); (try simp only [decide_eq_true_eq, decide_eq_false_iff_not, Bool.not_eq_true', Bool.not_eq_false', Int.not_lt, Int.not_le, Bool.not_true, Bool.not_false, Int.toNat_natCast, tn1, tn2, tnn, bne_iff_ne, beq_iff_eq, beq_eq_false_iff_ne, ne_eq, Decidable.not_not] at h4)
     refine AWp_skip ?_
     refine AWp_block ?_
     refine AWp_seq ?_
     refine AWp_drawL #[0, 1, 0, 4, 12, 31, 63, 127] Tryz.mixed (by decide +kernel) (by decide +kernel) ?_
     refine zd1 ?_
     refine zp1 ?_
     refine zd1 ?_
     refine yE rfl rfl (zc rfl (callSA hp (ih t p _ (get_setA hp) hq2 (by omega)))) (⟨.inr (op_load1 rfl Tryz.isAgg25 (ldv_ownS rfl rfl)), trivial⟩) (trivial) ?_
     have hv := rval_ok hs n t hq2
     have hva := hv.fwd.a
     have hvk := hv.fwd.ok
     have hua := hv.fwd.ok.a
     have hvs := hv.size
     clear hv
     generalize hx1 : (rval n s t).1 = v at hvs ⊢
     generalize hx2 : (rval n s t).2 = u at hva hvk hua hvs ⊢
     have hl5 := lsize_snoc l v
     rw [vcells_eq v]
     refine yA rfl rfl (fun _ => op_buildSlice [[_, _, _, _, _, _, _, _]] rfl Tryz.underlying25 Tryz.sizeOf28 Tryz.zeroValue28 rfl (by decide) (by decide) rfl rfl rfl rfl rfl) ?_
     refine yE rfl rfl (op_appendArrT len_set 2 (sz := 8) (m := 1) (len := l.length) (cs := _) rfl (.inr ⟨_, rfl⟩) Tryz.underlying25 Tryz.underlying25 Tryz.type28 rfl rfl rfl (by decide) rfl rfl (lflat_len l).symm rfl rfl rfl (by show (l.length + 1) * 112 ≤ _; omega) (by omega) rfl) (⟨.inl rfl, trivial⟩) (⟨rfl, trivial⟩) ?_
     refine zd1 ?_
     refine yEN rfl rfl rfl (op_storeOS (r := [.int .i64 4, .bool false, .bool false, .str e0, .int .i64 0, .str e0, .arr (σ.length + 2) (g + 1) 8 0 (l.length + 1), .sl false 9 (mcells [])]) rfl Tryz.sizeOf25 rfl rfl rfl rfl rfl (by decide)) (⟨.inl rfl, trivial⟩) (⟨rfl, ⟨rfl, trivial⟩⟩) ?_
     refine RP.nil rfl ?_
     refine AWp_seq ?_
     refine zu1 ?_
     refine zt rfl (zc rfl (peek_r s u p _ (get_setA hp))) ?_
     refine zv1 ?_
     refine AWp_cond rfl (fun h5 => ?_) (fun h5 => ?_)
     ·(try rw [h5]); (try simp only [decide_eq_true_eq, decide_eq_false_iff_not, Bool.not_eq_true', Bool.not_eq_false', Int.not_lt, Int.not_le, Bool.not_true, Bool.not_false, Int.toNat_natCast, tn1, tn2, tnn, bne_iff_ne, beq_iff_eq, beq_eq_false_iff_ne, ne_eq, Decidable.not_not] at h5)
      refine AWp_exit ?_
      show ∃ z : List JV × RS × Nat, _ ∧ _ ∧ _
      first | exact ⟨(l, t, g), ⟨by rw [← hq1, rarrF, if_neg (by omega)], hq2, hq5⟩, ⟨rfl, rfl, rfl, rfl, trivial⟩, rfl⟩ | exact ⟨(l ++ [v], u, g + 1), ⟨by rw [← hq1, rarrF, if_pos ⟨by omega, by omega⟩, hx1, hx2, if_neg (by omega)], hvk, by simp only; omega⟩, ⟨rfl, rfl, rfl, rfl, trivial⟩, by rw [lcells_snoc, List.length_append, vcells_eq v]; rfl⟩
     ·(try rw [h5]); (try simp only [decide_eq_true_eq, decide_eq_false_iff_not, Bool.not_eq_true', Bool.not_eq_false', Int.not_lt, Int.not_le, Bool.not_true, Bool.not_false, Int.toNat_natCast, tn1, tn2, tnn, bne_iff_ne, beq_iff_eq, beq_eq_false_iff_ne, ne_eq, Decidable.not_not] at h5)
      refine AWp_skip ?_
      refine AWp_regL ?_
      refine zv8 ?_
      have hstep : rarrF (rval n s) s (k + 1) l t = rarrF (rval n s) s k (l ++ [v]) (rinc u) := by rw [rarrF, if_pos ⟨by omega, by omega⟩, hx1, hx2, if_pos (by omega)]
      refine ⟨(k, l ++ [v], rinc u, g + 1), σ.length + 3, ⟨by rw [← hq1, hstep], (rinc_to hvk (by omega)).ok, by simp only [rinc]; omega, by simp only [rinc]; omega, by simp only [rinc]; omega⟩, by simp only; omega, by simp, ⟨rfl, rfl, rfl, rfl, trivial⟩, closed_ownS (x := rbox s (rinc u)) 3 hcl (by simp [AO.cells, AV.ltL, AV.lt]) ?_, ?_, ?_⟩
      ·simp [ownLt, AO.cells, AV.ltL, AV.lt, ofConst1, ltL_append, lflat_lt]
      ·simp [ltE, AV.lt]; omega
      ·rw [lcells_snoc, List.length_append, vcells_eq v]; exact take_ownS 3
    ·(try rw [h4]); (try simp only [decide_eq_true_eq, decide_eq_false_iff_not, Bool.not_eq_true', Bool.not_eq_false', Int.not_lt, Int.not_le, Bool.not_true, Bool.not_false, Int.toNat_natCast, tn1, tn2, tnn, bne_iff_ne, beq_iff_eq, beq_eq_false_iff_ne, ne_eq, Decidable.not_not] at h4)
     refine AWp_exit ?_
     show ∃ z : List JV × RS × Nat, _ ∧ _ ∧ _
     first | exact ⟨(l, t, g), ⟨by rw [← hq1, rarrF, if_neg (by omega)], hq2, hq5⟩, ⟨rfl, rfl, rfl, rfl, trivial⟩, rfl⟩ | exact ⟨(l ++ [v], u, g + 1), ⟨by rw [← hq1, rarrF, if_pos ⟨by omega, by omega⟩, hx1, hx2, if_neg (by omega)], hvk, by simp only; omega⟩, ⟨rfl, rfl, rfl, rfl, trivial⟩, by rw [lcells_snoc, List.length_append, vcells_eq v]; rfl⟩
  ·rw [h1]; (try simp only [decide_eq_true_eq, decide_eq_false_iff_not, Bool.not_eq_true', Bool.not_eq_false', Int.not_lt, Int.not_le, Bool.not_true, Bool.not_false, Int.toNat_natCast, tn1, tn2, tnn, bne_iff_ne, beq_iff_eq, beq_eq_false_iff_ne, ne_eq, Decidable.not_not] at h1)
   refine zg10 ?_
   refine zon ?_
   refine AWp_condF rfl ?_
   refine AWp_exit ?_
   show ∃ z : List JV × RS × Nat, _ ∧ _ ∧ _
   first | exact ⟨(l, t, g), ⟨by rw [← hq1, rarrF, if_neg (by omega)], hq2, hq5⟩, ⟨rfl, rfl, rfl, rfl, trivial⟩, rfl⟩ | exact ⟨(l ++ [v], u, g + 1), ⟨by rw [← hq1, rarrF, if_pos ⟨by omega, by omega⟩, hx1, hx2, if_neg (by omega)], hvk, by simp only; omega⟩, ⟨rfl, rfl, rfl, rfl, trivial⟩, by rw [lcells_snoc, List.length_append, vcells_eq v]; rfl⟩
 ·skip
  obtain ⟨l, t, g⟩ := z
  obtain ⟨hz1, hz2, hz3⟩ := hz
  simp only at hz1 hz2 hz3 ⊢
  have hres : rarr (rval n s) s r = (.mk 4 false {} e0 l [], rdec (rwant s rb1 t)) := by unfold rarr; rw [hz1]
  refine zu1 ?_
  refine zt rfl (zc rfl (callSA hp (want_c rb1 s t p _ (get_setA hp) hs (by decide) hz2))) ?_
  refine zon ?_
  refine AWp_seq ?_
  have hw := rwant_to (s := s) (lit := rb1) hz2
  have hw1 := hw.1.ok.d0
  have hw2 := hw.1.ok.d1
  have hw3 := hw.1.ok.a
  refine AWp_regL ?_
  refine zv8 ?_
  refine AWp_seq ?_
  refine AWp_freezeInS 1 6 2 g 8 0 l.length rfl rfl rfl (lcells l) (by rw [Nat.zero_mul, List.drop_zero, ← lflat_len, List.take_length]) (lrow_len l) (lcells_length l) (by decide) (by rw [lflat_len]; omega) ?_
  refine AWp_regL ?_
  refine zv2 ?_
  refine zrt ?_
  rw [hres, vcells_eq]
  exact RQ_retS (rkvs_cons (rkv_ckS rfl rfl rfl) rfl) (x := rbox s (rdec (rwant s rb1 t))) hcl (by simp [AO.cells, AV.ltL, AV.lt]) (by simp [rks, AV.lt, AV.ltL]) ⟨rfl, rfl⟩
end Lg
set_option maxRecDepth 20000
set_option maxHeartbeats 4000000
namespace Lg
open Go Go.Proofs Go.RowKit
variable [GLay] 
theorem object_r (s : ByteArray) (n : Nat) (ih : ∀ (t : RS) (p : Nat) (τ : List AO), τ[p]? = some (rbox s t) → ROK s t → s.size + 1 < n + t.a → ACalls Tryz.prog 34 [.ptr p 0] τ (Ret (.agg (vcells (rval n s t).1)) (τ.set p (rbox s (rval n s t).2)))) (r : RS) (p : Nat) (σ : List AO) (hσ : σ[p]? = some (rbox s r)) (hs : s.size ≤ 100000) (h : ROK s r) (hb : r.bad = 0) (ha : r.a < s.size) (hn : s.size + 1 < n + r.a + 1) : ACalls Tryz.prog 58 [.ptr p 0] σ (Ret (.agg (vcells (robj (rval n s) s r).1)) (σ.set p (rbox s (robj (rval n s) s r).2))) := by
 have hp : p < σ.length := (List.getElem?_eq_some_iff.1 hσ).1
 have ho := ropen_to h hb ha
 have hd0 := h.d0
 have hd1 := h.d1
 refine ACalls_bodyC Tryz.func58 rfl Tryz.ntmps58 (by rw [Tryz.results58]; exact (.ck Tryz.isAgg28 Tryz.sizeOf28 .nil)) (Nat.le_of_ble_eq_true rfl) (fun hcl hal => ?_)
 refine AWp_heap (set_same hσ) ?_
 refine zw1 ?_
 refine zw3 ?_
 refine AWp_seq ?_
 refine AWp_boxLeS 1 (bs' := [.int .i64 5, .bool false, .bool false, .str e0, .int .i64 0, .str e0, .sl false 8 (lcells []), .sl false 9 (mcells [])]) rfl ⟨AVle.refl _, AVle.refl _, AVle.refl _, AVle.refl _, AVle.refl _, AVle.refl _, nilL, nilM, trivial⟩ ?_
 refine AWp_regL ?_
 refine zg1 ?_
 refine zt rfl (zc rfl (callSA hp (open_r s r p _ (get_setA hp) hs h))) ?_
 refine zon ?_
 refine AWp_joinB (ι := List (ByteArray × JV) × RS × List AO) (fun z => robjF (rval n s) s (s.size + 2) [] (ropen s r) = (z.1, z.2.1) ∧ ROK s z.2.1 ∧ r.a + 1 ≤ z.2.1.a) (fun z => ⟨[], [(0, .ptr p 0), (2, .ptr (σ.length + 0) 0), (3, .ptr (σ.length + 1) 0)]⟩) (fun z => σ.set p (rbox s z.2.1) ++ ([.box [.int .i64 0, .bool false, .bool false, .str e0, .int .i64 0, .str e0, .nils, .nils], .box [.int .i64 5, .bool false, .bool false, .str e0, .int .i64 0, .str e0, .sl false 8 (lcells []), .sl false 9 (mcells z.1)]] ++ z.2.2)) ?_ (fun z hz => ?_)
 ·skip
  -- loop 0 LIVE 0:param 2:alloc 3:alloc
  refine AWp_loop (ι := Nat × List (ByteArray × JV) × RS) (fun q => robjF (rval n s) s q.1 q.2.1 q.2.2 = robjF (rval n s) s (s.size + 2) [] (ropen s r) ∧ ROK s q.2.2 ∧ msize q.2.1 ≤ q.2.2.a ∧ s.size + 2 ≤ q.1 + q.2.2.a ∧ r.a + 1 ≤ q.2.2.a) (fun q => ⟨[], [(0, .ptr p 0), (2, .ptr (σ.length + 0) 0), (3, .ptr (σ.length + 1) 0)]⟩) (fun q => σ.set p (rbox s q.2.2) ++ [.box [.int .i64 0, .bool false, .bool false, .str e0, .int .i64 0, .str e0, .nils, .nils], .box [.int .i64 5, .bool false, .bool false, .str e0, .int .i64 0, .str e0, .sl false 8 (lcells []), .sl false 9 (mcells q.2.1)]]) (fun q => q.1) ((s.size + 2, [], ropen s r)) (⟨rfl, ho.1.ok, by simp only [msize]; omega, by simp only; omega, ho.2.1⟩) ?_ rfl (fun q hq => ?_)
  ·exact ⟨rfl, rfl, rfl, rfl, trivial⟩
  obtain ⟨k, m, t⟩ := q
  obtain ⟨hq1, hq2, hq3, hq4, hq5⟩ := hq
  simp only at hq1 hq2 hq3 hq4 hq5 ⊢
  have hta := hq2.a
  have hll := mlen_le m
  have hlc := mcells_length m
  obtain ⟨k, rfl⟩ : ∃ k', k = k' + 1 := ⟨k - 1, by omega⟩
  refine AWp_join (ι := Unit) (fun b => t.bad = 0 ∧ (¬ pkv s t.a t.bad = 125 ∨ 0 < m.length)) (fun b => ⟨[], [(0, .ptr p 0), (2, .ptr (σ.length + 0) 0), (3, .ptr (σ.length + 1) 0)]⟩) (fun b => σ.set p (rbox s t) ++ [.box [.int .i64 0, .bool false, .bool false, .str e0, .int .i64 0, .str e0, .nils, .nils], .box [.int .i64 5, .bool false, .bool false, .str e0, .int .i64 0, .str e0, .sl false 8 (lcells []), .sl false 9 (mcells m)]]) ?_ (fun b hj => ?_)
  ·skip
   refine zu6 ?_
   refine zsp 19 rfl (fun h1 => ?_) fun h1 => ?_
   ·rw [h1]; (try simp only [decide_eq_true_eq, decide_eq_false_iff_not, Bool.not_eq_true', Bool.not_eq_false', Int.not_lt, Int.not_le, Bool.not_true, Bool.not_false, Int.toNat_natCast, tn1, tn2, tnn, bne_iff_ne, beq_iff_eq, beq_eq_false_iff_ne, ne_eq, Decidable.not_not] at h1)
    refine zg1 ?_
    refine ztG rfl rfl (zc rfl (peek_r s t p _ (get_setA hp))) ?_
    refine zg2 ?_
    refine zsp 23 rfl (fun h2 => ?_) fun h2 => ?_
    ·rw [h2]; (try simp only [decide_eq_true_eq, decide_eq_false_iff_not, Bool.not_eq_true', Bool.not_eq_false', Int.not_lt, Int.not_le, Bool.not_true, Bool.not_false, Int.toNat_natCast, tn1, tn2, tnn, bne_iff_ne, beq_iff_eq, beq_eq_false_iff_ne, ne_eq, Decidable.not_not] at h2)
     refine zv6 ?_
     refine AWp_condT rfl ?_
     refine AWp_skip ?_
     exact ⟨(), ⟨by omega, by omega⟩, ⟨rfl, rfl, rfl, rfl, trivial⟩, rfl⟩
    ·rw [h2]; (try simp only [decide_eq_true_eq, decide_eq_false_iff_not, Bool.not_eq_true', Bool.not_eq_false', Int.not_lt, Int.not_le, Bool.not_true, Bool.not_false, Int.toNat_natCast, tn1, tn2, tnn, bne_iff_ne, beq_iff_eq, beq_eq_false_iff_ne, ne_eq, Decidable.not_not] at h2)
     refine zv6 ?_
     refine AWp_cond rfl (fun h3 => ?_) (fun h3 => ?_)
     ·(try rw [h3]); (try simp only [decide_eq_true_eq, decide_eq_false_iff_not, Bool.not_eq_true', Bool.not_eq_false', Int.not_lt, Int.not_le, Bool.not_true, Bool.not_false, Int.toNat_natCast, tn1, tn2, tnn, bne_iff_ne, beq_iff_eq, beq_eq_false_iff_ne, ne_eq, Decidable.not_not] at h3)
      refine AWp_skip ?_
      exact ⟨(), ⟨by omega, by omega⟩, ⟨rfl, rfl, rfl, rfl, trivial⟩, rfl⟩
     ·(try rw [h3]); (try simp only [decide_eq_true_eq, decide_eq_false_iff_not, Bool.not_eq_true', Bool.not_eq_false', Int.not_lt, Int.not_le, Bool.not_true, Bool.not_false, Int.toNat_natCast, tn1, tn2, tnn, bne_iff_ne, beq_iff_eq, beq_eq_false_iff_ne, ne_eq, Decidable.not_not] at h3)
      refine AWp_exit ?_
      show ∃ z : List (ByteArray × JV) × RS × List AO, _ ∧ _ ∧ _
      first | exact ⟨(m, t, []), ⟨by rw [← hq1, robjF, if_neg (by omega)], hq2, hq5⟩, ⟨rfl, rfl, rfl, rfl, trivial⟩, rfl⟩ | exact ⟨(rins m (rtext s (rblank s t)).1 v, u, _), ⟨by rw [← hq1, robjF, if_pos ⟨htb, htp⟩, hx1, hx2, if_neg (by omega)]; rfl, hvk, by simp only; omega⟩, ⟨rfl, rfl, rfl, rfl, trivial⟩, rfl⟩
   ·rw [h1]; (try simp only [decide_eq_true_eq, decide_eq_false_iff_not, Bool.not_eq_true', Bool.not_eq_false', Int.not_lt, Int.not_le, Bool.not_true, Bool.not_false, Int.toNat_natCast, tn1, tn2, tnn, bne_iff_ne, beq_iff_eq, beq_eq_false_iff_ne, ne_eq, Decidable.not_not] at h1)
    refine zg10 ?_
    refine zon ?_
    refine AWp_condF rfl ?_
    refine AWp_exit ?_
    show ∃ z : List (ByteArray × JV) × RS × List AO, _ ∧ _ ∧ _
    first | exact ⟨(m, t, []), ⟨by rw [← hq1, robjF, if_neg (by omega)], hq2, hq5⟩, ⟨rfl, rfl, rfl, rfl, trivial⟩, rfl⟩ | exact ⟨(rins m (rtext s (rblank s t)).1 v, u, _), ⟨by rw [← hq1, robjF, if_pos ⟨htb, htp⟩, hx1, hx2, if_neg (by omega)]; rfl, hvk, by simp only; omega⟩, ⟨rfl, rfl, rfl, rfl, trivial⟩, rfl⟩
  ·skip
   obtain ⟨htb, htp⟩ := hj
   refine AWp_block ?_
   refine AWp_seq ?_
   have hb1 := rblank_to hq2
   have ht1 := rtext_to hb1.ok
   have hk2 := rk2_ok (m := m) hq2
   have hb2 := rblank_to hk2.1.ok
   have hk3 := rkey_ok (rv := rval n s) (fun r h => rval_ok hs n r h) (m := m) hq2
   have hka := hk3.1.a
   have hku := hk3.1.ok.a
   have hkd := hk3.2.2.1
   refine AWp_regL ?_
   refine zg1 ?_
   refine zt rfl (zc rfl (callSA hp (blank_r s t p _ (get_setA hp) hs hq2))) ?_
   refine zon ?_
   refine zw5 ?_
   refine zu1 ?_
   refine zt rfl (zc rfl (callSA hp (text_r s (rblank s t) p _ (get_setA hp) hs hb1.ok))) ?_
   refine zv1 ?_
   refine zu2 ?_
   refine zt rfl (zc rfl ((by have hfd := FindR.ret (rfind_c (mkO m) (rtext s (rblank s t)).1 (σ.set p (rbox s (rtext s (rblank s t)).2) ++ [.box [.int .i64 0, .bool false, .bool false, .str e0, .int .i64 0, .str e0, .nils, .nils], .box [.int .i64 5, .bool false, .bool false, .str e0, .int .i64 0, .str e0, .sl false 8 (lcells []), .sl false 9 (mcells m)]]) (by show m.length ≤ _; omega)); rw [vcells_eq (mkO m)] at hfd; exact hfd))) ?_
   rw [vcells_eq ((jfind (mkO m) (rtext s (rblank s t)).1).getD vz)]
   refine zv6 ?_
   refine AWp_join (ι := Unit) (fun b => True) (fun b => ⟨[], [(0, .ptr p 0), (2, .ptr (σ.length + 0) 0), (3, .ptr (σ.length + 1) 0), (5, .str (rtext s (rblank s t)).1)]⟩) (fun b => σ.set p (rbox s (rk2 s m t)) ++ [.box [.int .i64 0, .bool false, .bool false, .str e0, .int .i64 0, .str e0, .nils, .nils], .box [.int .i64 5, .bool false, .bool false, .str e0, .int .i64 0, .str e0, .sl false 8 (lcells []), .sl false 9 (mcells m)], .box [.int .i64 ((jfind (mkO m) (rtext s (rblank s t)).1).getD vz).kind, .bool ((jfind (mkO m) (rtext s (rblank s t)).1).getD vz).b, .bool ((jfind (mkO m) (rtext s (rblank s t)).1).getD vz).n.neg, .str ((jfind (mkO m) (rtext s (rblank s t)).1).getD vz).n.digits, .int .i64 ((jfind (mkO m) (rtext s (rblank s t)).1).getD vz).n.exp, .str ((jfind (mkO m) (rtext s (rblank s t)).1).getD vz).s, .sl false 8 (lcells ((jfind (mkO m) (rtext s (rblank s t)).1).getD vz).l), .sl false 9 (mcells ((jfind (mkO m) (rtext s (rblank s t)).1).getD vz).m)]]) ?_ (fun b hj => ?_)
   ·skip
    refine zw1 ?_
    refine AWp_cond rfl (fun h4 => ?_) (fun h4 => ?_)
    ·(try rw [h4]); (try simp only [decide_eq_true_eq, decide_eq_false_iff_not, Bool.not_eq_true', Bool.not_eq_false', Int.not_lt, Int.not_le, Bool.not_true, Bool.not_false, Int.toNat_natCast, tn1, tn2, tnn, bne_iff_ne, beq_iff_eq, beq_eq_false_iff_ne, ne_eq, Decidable.not_not] at h4)
     refine AWp_regL ?_
     refine zg2 ?_
     refine zt rfl (zc rfl (callSA hp (fail_r s (rtext s (rblank s t)).2 p _ (get_setA hp) ((rblank s t).a : Int) 4))) ?_
     refine zon ?_
     refine ⟨(), trivial, ⟨rfl, rfl, rfl, rfl, rfl, trivial⟩, ?_⟩
     unfold rk2; first | (rw [if_pos (by assumption)]; rfl) | (rw [if_neg (by simp only [Bool.not_eq_true]; assumption)]; rfl) | rfl
    ·(try rw [h4]); (try simp only [decide_eq_true_eq, decide_eq_false_iff_not, Bool.not_eq_true', Bool.not_eq_false', Int.not_lt, Int.not_le, Bool.not_true, Bool.not_false, Int.toNat_natCast, tn1, tn2, tnn, bne_iff_ne, beq_iff_eq, beq_eq_false_iff_ne, ne_eq, Decidable.not_not] at h4)
     refine AWp_skip ?_
     refine ⟨(), trivial, ⟨rfl, rfl, rfl, rfl, rfl, trivial⟩, ?_⟩
     unfold rk2; first | (rw [if_pos (by assumption)]; rfl) | (rw [if_neg (by simp only [Bool.not_eq_true]; assumption)]; rfl) | rfl
   ·skip
    refine zu1 ?_
    refine zt rfl (zc rfl (callSA hp (blank_r s (rk2 s m t) p _ (get_setA hp) hs hk2.1.ok))) ?_
    refine zon ?_
    refine zu1 ?_
    refine zt rfl (zc rfl (callSA hp (want_c rb3 s (rblank s (rk2 s m t)) p _ (get_setA hp) hs (by decide) hb2.ok))) ?_
    refine zon ?_
    refine zu1 ?_
    refine zt rfl (zc rfl (callSA hp (ih (rkey s m t).2 p _ (get_setA hp) hk3.1.ok (by omega)))) ?_
    have hv := rval_ok hs n (rkey s m t).2 hk3.1.ok
    have hva := hv.fwd.a
    have hvk := hv.fwd.ok
    have hua := hv.fwd.ok.a
    have hvs := hv.size
    clear hv
    generalize hx1 : (rval n s (rkey s m t).2).1 = v at hvs ⊢
    generalize hx2 : (rval n s (rkey s m t).2).2 = u at hva hvk hua hvs ⊢
    have hl5 := msize_ins m (rkey s m t).1 v
    rw [vcells_eq v]
    refine zv2 ?_
    refine zw1 ?_
    refine AWp_joinB (ι := Nat) (fun j => rinsK m (rtext s (rblank s t)).1 = j ∧ j ≤ m.length) (fun j => ⟨[], [(0, .ptr p 0), (2, .ptr (σ.length + 0) 0), (3, .ptr (σ.length + 1) 0), (5, .str (rtext s (rblank s t)).1), (8, .ptr (σ.length + 3) 0), (9, .int .i64 (j : Int))]⟩) (fun j => σ.set p (rbox s u) ++ [.box [.int .i64 0, .bool false, .bool false, .str e0, .int .i64 0, .str e0, .nils, .nils], .box [.int .i64 5, .bool false, .bool false, .str e0, .int .i64 0, .str e0, .sl false 8 (lcells []), .sl false 9 (mcells m)], .box [.int .i64 ((jfind (mkO m) (rtext s (rblank s t)).1).getD vz).kind, .bool ((jfind (mkO m) (rtext s (rblank s t)).1).getD vz).b, .bool ((jfind (mkO m) (rtext s (rblank s t)).1).getD vz).n.neg, .str ((jfind (mkO m) (rtext s (rblank s t)).1).getD vz).n.digits, .int .i64 ((jfind (mkO m) (rtext s (rblank s t)).1).getD vz).n.exp, .str ((jfind (mkO m) (rtext s (rblank s t)).1).getD vz).s, .sl false 8 (lcells ((jfind (mkO m) (rtext s (rblank s t)).1).getD vz).l), .sl false 9 (mcells ((jfind (mkO m) (rtext s (rblank s t)).1).getD vz).m)], .box [.int .i64 v.kind, .bool v.b, .bool v.n.neg, .str v.n.digits, .int .i64 v.n.exp, .str v.s, .sl false 8 (lcells v.l), .sl false 9 (mcells v.m)]]) ?_ (fun j hz => ?_)
    ·skip
     -- loop 1 LIVE 0:param 2:alloc 3:alloc 5:assign 8:alloc 9:assign
     refine AWp_loop (ι := Nat) (fun j => j ≤ m.length ∧ rinsK m (rtext s (rblank s t)).1 = j + rinsK (m.drop j) (rtext s (rblank s t)).1) (fun j => ⟨[], [(0, .ptr p 0), (2, .ptr (σ.length + 0) 0), (3, .ptr (σ.length + 1) 0), (5, .str (rtext s (rblank s t)).1), (8, .ptr (σ.length + 3) 0), (9, .int .i64 (j : Int))]⟩) (fun j => σ.set p (rbox s u) ++ [.box [.int .i64 0, .bool false, .bool false, .str e0, .int .i64 0, .str e0, .nils, .nils], .box [.int .i64 5, .bool false, .bool false, .str e0, .int .i64 0, .str e0, .sl false 8 (lcells []), .sl false 9 (mcells m)], .box [.int .i64 ((jfind (mkO m) (rtext s (rblank s t)).1).getD vz).kind, .bool ((jfind (mkO m) (rtext s (rblank s t)).1).getD vz).b, .bool ((jfind (mkO m) (rtext s (rblank s t)).1).getD vz).n.neg, .str ((jfind (mkO m) (rtext s (rblank s t)).1).getD vz).n.digits, .int .i64 ((jfind (mkO m) (rtext s (rblank s t)).1).getD vz).n.exp, .str ((jfind (mkO m) (rtext s (rblank s t)).1).getD vz).s, .sl false 8 (lcells ((jfind (mkO m) (rtext s (rblank s t)).1).getD vz).l), .sl false 9 (mcells ((jfind (mkO m) (rtext s (rblank s t)).1).getD vz).m)], .box [.int .i64 v.kind, .bool v.b, .bool v.n.neg, .str v.n.digits, .int .i64 v.n.exp, .str v.s, .sl false 8 (lcells v.l), .sl false 9 (mcells v.m)]]) (fun j => m.length - j) (0) (⟨Nat.zero_le _, by simp⟩) ?_ rfl (fun j hj => ?_)
     ·exact ⟨rfl, rfl, rfl, rfl, rfl, rfl, rfl, trivial⟩
     obtain ⟨hj1, hj2⟩ := hj
     refine AWp_seq ?_
     refine zu6 ?_
     refine zsp 59 rfl (fun h5 => ?_) fun h5 => ?_
     ·rw [h5]; (try simp only [decide_eq_true_eq, decide_eq_false_iff_not, Bool.not_eq_true', Bool.not_eq_false', Int.not_lt, Int.not_le, Bool.not_true, Bool.not_false, Int.toNat_natCast, tn1, tn2, tnn, bne_iff_ne, beq_iff_eq, beq_eq_false_iff_ne, ne_eq, Decidable.not_not] at h5)
      obtain ⟨q, hq⟩ : ∃ q, m[j]? = some q := ⟨_, List.getElem?_eq_getElem (show j < m.length by omega)⟩
      refine zv9 ?_
      refine AWp_cond rfl (fun h6 => ?_) (fun h6 => ?_)
      ·(try rw [h6]); (try simp only [decide_eq_true_eq, decide_eq_false_iff_not, Bool.not_eq_true', Bool.not_eq_false', Int.not_lt, Int.not_le, Bool.not_true, Bool.not_false, Int.toNat_natCast, tn1, tn2, tnn, bne_iff_ne, beq_iff_eq, beq_eq_false_iff_ne, ne_eq, Decidable.not_not] at h6)
       refine AWp_skip ?_
       refine AWp_block ?_
       refine AWp_regL ?_
       refine zv3 ?_
       refine ⟨j + 1, σ.length + 4, ⟨by omega, by rw [hj2, rinsK_yes hq h6]; omega⟩, by omega, by simp, ⟨rfl, rfl, rfl, rfl, rfl, rfl, rfl, trivial⟩, closed_ownS (x := rbox s u) 4 hcl (by simp [AO.cells, AV.ltL, AV.lt]) ?_, ?_, take_ownS 4⟩
       ·simp [ownLt, AO.cells, AV.ltL, AV.lt]
       ·simp [ltE, AV.lt]; omega
      ·(try rw [h6]); (try simp only [decide_eq_true_eq, decide_eq_false_iff_not, Bool.not_eq_true', Bool.not_eq_false', Int.not_lt, Int.not_le, Bool.not_true, Bool.not_false, Int.toNat_natCast, tn1, tn2, tnn, bne_iff_ne, beq_iff_eq, beq_eq_false_iff_ne, ne_eq, Decidable.not_not] at h6)
       refine AWp_exit ?_
       show ∃ z : Nat, _ ∧ _ ∧ _
       first | exact ⟨j, ⟨by rw [hj2, rinsK_no hq (by assumption)]; rfl, hj1⟩, ⟨rfl, rfl, rfl, rfl, rfl, rfl, rfl, trivial⟩, rfl⟩ | exact ⟨j, ⟨by rw [hj2, rinsK_end (by omega)]; rfl, hj1⟩, ⟨rfl, rfl, rfl, rfl, rfl, rfl, rfl, trivial⟩, rfl⟩
     ·rw [h5]; (try simp only [decide_eq_true_eq, decide_eq_false_iff_not, Bool.not_eq_true', Bool.not_eq_false', Int.not_lt, Int.not_le, Bool.not_true, Bool.not_false, Int.toNat_natCast, tn1, tn2, tnn, bne_iff_ne, beq_iff_eq, beq_eq_false_iff_ne, ne_eq, Decidable.not_not] at h5)
      refine zv9 ?_
      refine AWp_condF rfl ?_
      refine AWp_exit ?_
      show ∃ z : Nat, _ ∧ _ ∧ _
      first | exact ⟨j, ⟨by rw [hj2, rinsK_no hq (by assumption)]; rfl, hj1⟩, ⟨rfl, rfl, rfl, rfl, rfl, rfl, rfl, trivial⟩, rfl⟩ | exact ⟨j, ⟨by rw [hj2, rinsK_end (by omega)]; rfl, hj1⟩, ⟨rfl, rfl, rfl, rfl, rfl, rfl, rfl, trivial⟩, rfl⟩
    ·skip
     obtain ⟨hkk, hj1⟩ := hz
     have htl : (m.take j).length = j := by rw [List.length_take]; omega
     have hdl : (m.drop j).length = m.length - j := List.length_drop ..
     have hrow : mrow ((rtext s (rblank s t)).1, v) = [.str (rtext s (rblank s t)).1, .int .i64 v.kind, .bool v.b, .bool v.n.neg, .str v.n.digits, .int .i64 v.n.exp, .str v.s, .sl false 8 (lcells v.l), .sl false 9 (mcells v.m)] := by rw [mrow, vcells_eq]
     refine AWp_seq ?_
     refine AWp_drawL #[0, 0, 3, 7, 0, 16, 0, 112, 255, 511] Tryz.mixed (by decide +kernel) (by decide +kernel) ?_
     refine zd1 ?_
     refine zp1 ?_
     refine zd1 ?_
     refine yE rfl rfl (op_buildSliceArrT len_set (n := 4) (cs := [.str (rtext s (rblank s t)).1, .int .i64 v.kind, .bool v.b, .bool v.n.neg, .str v.n.digits, .int .i64 v.n.exp, .str v.s, .sl false 8 (lcells v.l), .sl false 9 (mcells v.m)]) rfl rfl (op_buildSliceArr rfl Tryz.underlying26 Tryz.sizeOf122 Tryz.zeroValue122 rfl (by decide) (by decide) rfl rfl rfl)) (⟨.inl rfl, trivial⟩) (trivial) ?_
     refine zd1 ?_
     refine yP rfl rfl (zoa) (⟨.inr (op_load1 rfl Tryz.isAgg26 (ldv_ownS rfl rfl)), trivial⟩) ?_
     refine zd1 ?_
     refine yA rfl rfl (fun _ => (by first | exact op_sliceSl _ _ rfl Tryz.underlying26 Tryz.sizeOf122 rfl (by first | exact ⟨_, rfl⟩ | rfl) (by first | exact ⟨_, rfl⟩ | rfl) (by omega) (by omega) (by omega) | exact op_sliceArr _ _ rfl Tryz.underlying26 Tryz.sizeOf122 rfl GET (by first | exact ⟨_, rfl⟩ | rfl) (by first | exact ⟨_, rfl⟩ | rfl) (by omega) (by omega) (by omega))) ?_
     simp only [Int.toNat_natCast, mslice_lo']
     refine yE rfl rfl (op_appendArrT len_set 4 (sz := 9) (m := (m.drop j).length) (len := 1) (cs := (mcells (m.drop j)).flatten) rfl (.inr ⟨_, rfl⟩) Tryz.underlying26 Tryz.underlying26 Tryz.type122 rfl rfl rfl (by decide) rfl rfl rfl (by rw [← mcells_length (m.drop j)]; rfl) rfl (mones _) (by show (1 + (m.drop j).length) * 128 ≤ _; omega) (by omega) (mflat_len _)) (⟨.inl rfl, ⟨.inl rfl, trivial⟩⟩) (⟨rfl, trivial⟩) ?_
     refine zd1 ?_
     refine RP.nil rfl ?_
     refine zsr ?_
     refine zt rfl (op_buildSlice0 rfl Tryz.underlying26 Tryz.sizeOf122) ?_
     refine zg3 ?_
     refine zt rfl ((by first | exact op_sliceSl _ _ rfl Tryz.underlying26 Tryz.sizeOf122 rfl (by first | exact ⟨_, rfl⟩ | rfl) (by first | exact ⟨_, rfl⟩ | rfl) (by omega) (by omega) (by omega) | exact op_sliceArr _ _ rfl Tryz.underlying26 Tryz.sizeOf122 rfl GET (by first | exact ⟨_, rfl⟩ | rfl) (by first | exact ⟨_, rfl⟩ | rfl) (by omega) (by omega) (by omega))) ?_
     simp only [Int.toNat_natCast]
     rw [mslice_hi]
     refine zt rfl (op_appendNewT len_set (n := 5) rfl (sz := 9) (m := (m.take j).length) (cs := (mcells (m.take j)).flatten) rfl (.inr ⟨_, rfl⟩) Tryz.underlying26 Tryz.underlying26 Tryz.type122 rfl rfl rfl (by decide) (.inr rfl) (by rw [← mcells_length (m.take j)]; rfl) rfl (mones _) (by show (m.take j).length * 128 ≤ _; omega) (by omega) (mflat_len _)) ?_
     refine zg1 ?_
     refine zt rfl (op_appendArrT len_set 5 (sz := 9) (m := 1 + (m.drop j).length) (len := (m.take j).length) (cs := [.str (rtext s (rblank s t)).1, .int .i64 v.kind, .bool v.b, .bool v.n.neg, .str v.n.digits, .int .i64 v.n.exp, .str v.s, .sl false 8 (lcells v.l), .sl false 9 (mcells v.m)] ++ (mcells (m.drop j)).flatten) rfl (.inr ⟨_, rfl⟩) Tryz.underlying26 Tryz.underlying26 Tryz.type122 rfl rfl rfl (by decide) rfl rfl (mflat_len _).symm (srcv_arrT len_set 4 rfl (by rw [List.length_append, mflat_len]; simp only [List.length_cons, List.length_nil]; omega)) rfl (by rw [ones_append, mones]; rfl) (by show ((m.take j).length + (1 + (m.drop j).length)) * 128 ≤ _; omega) (by omega) (by rw [List.length_append, mflat_len]; simp only [List.length_cons, List.length_nil]; omega)) ?_
     refine zg1 ?_
     refine ztN rfl rfl (op_storeOS (r := [.int .i64 5, .bool false, .bool false, .str e0, .int .i64 0, .str e0, .sl false 8 (lcells []), .arr (σ.length + 5) 1 9 0 ((m.take j).length + (1 + (m.drop j).length))]) rfl Tryz.sizeOf26 rfl rfl rfl rfl rfl (by decide)) ?_
     refine zon ?_
     refine AWp_seq ?_
     refine AWp_seq ?_
     refine AWp_freezeInS 1 7 5 1 9 0 ((m.take j).length + (1 + (m.drop j).length)) rfl rfl rfl (mcells (rins m (rtext s (rblank s t)).1 v)) (by rw [Nat.zero_mul, List.drop_zero, List.take_of_length_le (by simp only [List.length_append, mflat_len, List.length_cons, List.length_nil]; omega), mflat_ins, hkk, hrow]) (mrows_len _) (by rw [mcells_length, rins_len]; omega) (by decide) (by simp only [List.length_append, mflat_len, List.length_cons, List.length_nil]; omega) ?_
     refine AWp_regL ?_
     refine zg1 ?_
     refine zt rfl (zc rfl (peek_r s u p _ (get_setA hp))) ?_
     refine zv1 ?_
     refine AWp_cond rfl (fun h7 => ?_) (fun h7 => ?_)
     ·(try rw [h7]); (try simp only [decide_eq_true_eq, decide_eq_false_iff_not, Bool.not_eq_true', Bool.not_eq_false', Int.not_lt, Int.not_le, Bool.not_true, Bool.not_false, Int.toNat_natCast, tn1, tn2, tnn, bne_iff_ne, beq_iff_eq, beq_eq_false_iff_ne, ne_eq, Decidable.not_not] at h7)
      refine AWp_exit ?_
      show ∃ z : List (ByteArray × JV) × RS × List AO, _ ∧ _ ∧ _
      first | exact ⟨(m, t, []), ⟨by rw [← hq1, robjF, if_neg (by omega)], hq2, hq5⟩, ⟨rfl, rfl, rfl, rfl, trivial⟩, rfl⟩ | exact ⟨(rins m (rtext s (rblank s t)).1 v, u, _), ⟨by rw [← hq1, robjF, if_pos ⟨htb, htp⟩, hx1, hx2, if_neg (by omega)]; rfl, hvk, by simp only; omega⟩, ⟨rfl, rfl, rfl, rfl, trivial⟩, rfl⟩
     ·(try rw [h7]); (try simp only [decide_eq_true_eq, decide_eq_false_iff_not, Bool.not_eq_true', Bool.not_eq_false', Int.not_lt, Int.not_le, Bool.not_true, Bool.not_false, Int.toNat_natCast, tn1, tn2, tnn, bne_iff_ne, beq_iff_eq, beq_eq_false_iff_ne, ne_eq, Decidable.not_not] at h7)
      refine AWp_skip ?_
      refine AWp_regL ?_
      refine zv8 ?_
      have hstep : robjF (rval n s) s (k + 1) m t = robjF (rval n s) s k (rins m (rtext s (rblank s t)).1 v) (rinc u) := by rw [robjF, if_pos ⟨htb, htp⟩, hx1, hx2, if_pos (by omega)]; rfl
      refine ⟨(k, rins m (rtext s (rblank s t)).1 v, rinc u), σ.length + 2, ⟨by rw [← hq1, hstep], (rinc_to hvk (by omega)).ok, ?_, by simp only [rinc]; omega, by simp only [rinc]; omega⟩, by simp only; omega, by simp, ⟨rfl, rfl, rfl, rfl, trivial⟩, closed_ownS (x := rbox s (rinc u)) 2 hcl (by simp [AO.cells, AV.ltL, AV.lt]) ?_, ?_, take_ownS 2⟩
      ·show msize (rins m (rkey s m t).1 v) ≤ _; rw [hl5]; simp only [rinc]; omega
      ·simp [ownLt, AO.cells, AV.ltL, AV.lt, ofConst1]
      ·simp [ltE, AV.lt]; omega
 ·skip
  obtain ⟨m, t, w⟩ := z
  obtain ⟨hz1, hz2, hz3⟩ := hz
  simp only at hz1 hz2 hz3 ⊢
  have hres : robj (rval n s) s r = (mkO m, rdec (rwant s rb2 t)) := by unfold robj; rw [hz1]
  refine zu1 ?_
  refine zt rfl (zc rfl (callSA hp (want_c rb2 s t p _ (get_setA hp) hs (by decide) hz2))) ?_
  refine zon ?_
  refine AWp_seq ?_
  have hw := rwant_to (s := s) (lit := rb2) hz2
  have hw1 := hw.1.ok.d0
  have hw2 := hw.1.ok.d1
  have hw3 := hw.1.ok.a
  refine AWp_regL ?_
  refine zv8 ?_
  refine zw2 ?_
  refine zrt ?_
  rw [hres, vcells_eq]
  exact RQ_retS (rkvs_cons (rkv_ckS rfl rfl rfl) rfl) (x := rbox s (rdec (rwant s rb2 t))) hcl (by simp [AO.cells, AV.ltL, AV.lt]) (by simp [rks, AV.lt, AV.ltL]) ⟨rfl, rfl⟩
end Lg
set_option maxRecDepth 20000
set_option maxHeartbeats 4000000
namespace Lg
open Go Go.Proofs Go.RowKit
variable [GLay] 
end Lg
set_option maxRecDepth 20000
set_option maxHeartbeats 4000000
namespace Lg
open Go Go.Proofs Go.RowKit
variable [GLay] 
theorem value_r (s : ByteArray) (hs : s.size ≤ 100000) : ∀ (n : Nat) (r : RS) (p : Nat) (σ : List AO), σ[p]? = some (rbox s r) → ROK s r → s.size + 1 < n + r.a → ACalls Tryz.prog 34 [.ptr p 0] σ (Ret (.agg (vcells (rval n s r).1)) (σ.set p (rbox s (rval n s r).2))) := by
 intro n
 induction n with
 | zero => intro r p σ hσ h hn; exfalso; have := h.a; omega
 | succ n ih =>
 intro r p σ hσ h hn
 have hp : p < σ.length := (List.getElem?_eq_some_iff.1 hσ).1
 have hb1 := rblank_to h
 have hta := hb1.a
 refine ACalls_bodyC Tryz.func34 rfl Tryz.ntmps34 (by rw [Tryz.results34]; exact (.ck Tryz.isAgg28 Tryz.sizeOf28 .nil)) (Nat.le_of_ble_eq_true rfl) (fun hcl hal => ?_)
 refine AWp_heap (set_same hσ) ?_
 refine zw1 ?_
 refine zw1 ?_
 refine zu1 ?_
 refine zt rfl (zc rfl (callSA hp (blank_r s r p _ (get_setA hp) hs h))) ?_
 refine zon ?_
 refine AWp_seq ?_
 have hres : rval (n + 1) s r = ((rone (rval n s) s (rblank s r)).1, rblank s (rone (rval n s) s (rblank s r)).2) := rfl
 generalize rblank s r = t at hb1 hta hres ⊢
 have htk := hb1.ok.a
 have htb := hb1.ok.b
 have hn2 : s.size + 1 < n + t.a + 1 := by omega
 refine AWp_regL ?_
 refine zg1 ?_
 refine zt rfl (zc rfl (peek_r s t p _ (get_setA hp))) ?_
 refine zv1 ?_
 refine AWp_join (ι := AV × AV × List AO) (fun z => AVle z.1 (.sl false 8 (lcells (rone (rval n s) s t).1.l)) ∧ AVle z.2.1 (.sl false 9 (mcells (rone (rval n s) s t).1.m))) (fun z => ⟨[], [(0, .ptr p 0), (2, .ptr (σ.length + 0) 0), (3, .ptr (σ.length + 1) 0)]⟩) (fun z => σ.set p (rbox s (rone (rval n s) s t).2) ++ ([.box [.int .i64 0, .bool false, .bool false, .str e0, .int .i64 0, .str e0, .nils, .nils], .box [.int .i64 (rone (rval n s) s t).1.kind, .bool (rone (rval n s) s t).1.b, .bool (rone (rval n s) s t).1.n.neg, .str (rone (rval n s) s t).1.n.digits, .int .i64 (rone (rval n s) s t).1.n.exp, .str (rone (rval n s) s t).1.s, z.1, z.2.1]] ++ z.2.2)) ?_ (fun z hj => ?_)
 ·skip
  refine zw2 ?_
  refine AWp_cond rfl (fun h1 => ?_) (fun h1 => ?_)
  ·(try rw [h1]); (try simp only [decide_eq_true_eq, decide_eq_false_iff_not, Bool.not_eq_true', Bool.not_eq_false', Int.not_lt, Int.not_le, Bool.not_true, Bool.not_false, Int.toNat_natCast, tn1, tn2, tnn, bne_iff_ne, beq_iff_eq, beq_eq_false_iff_ne, ne_eq, Decidable.not_not] at h1)
   have hpk := pk_yes (s := s) (a := t.a) (bad := t.bad) (by omega)
   refine AWp_regL ?_
   refine zg1 ?_
   refine zt rfl (zc rfl (callSA hp (object_r s n ih t p _ (get_setA hp) hs hb1.ok hpk.1 hpk.2.1 hn2))) ?_
   rw [vcells_eq (robj (rval n s) s t).1]
   refine zv1 ?_
   have hone : rone (rval n s) s t = robj (rval n s) s t := by unfold rone; rw [if_pos (by omega)]
   simp only [hone]
   exact ⟨(.sl false 8 (lcells (robj (rval n s) s t).1.l), .sl false 9 (mcells (robj (rval n s) s t).1.m), _), ⟨AVle.refl _, AVle.refl _⟩, ⟨rfl, rfl, rfl, rfl, trivial⟩, rfl⟩
  ·(try rw [h1]); (try simp only [decide_eq_true_eq, decide_eq_false_iff_not, Bool.not_eq_true', Bool.not_eq_false', Int.not_lt, Int.not_le, Bool.not_true, Bool.not_false, Int.toNat_natCast, tn1, tn2, tnn, bne_iff_ne, beq_iff_eq, beq_eq_false_iff_ne, ne_eq, Decidable.not_not] at h1)
   refine zw2 ?_
   refine AWp_cond rfl (fun h2 => ?_) (fun h2 => ?_)
   ·(try rw [h2]); (try simp only [decide_eq_true_eq, decide_eq_false_iff_not, Bool.not_eq_true', Bool.not_eq_false', Int.not_lt, Int.not_le, Bool.not_true, Bool.not_false, Int.toNat_natCast, tn1, tn2, tnn, bne_iff_ne, beq_iff_eq, beq_eq_false_iff_ne, ne_eq, Decidable.not_not] at h2)
    have hpk := pk_yes (s := s) (a := t.a) (bad := t.bad) (by omega)
    refine AWp_regL ?_
    refine zg1 ?_
    refine zt rfl (zc rfl (callSA hp (array_r s n ih t p _ (get_setA hp) hs hb1.ok hpk.1 hpk.2.1 hn2))) ?_
    rw [vcells_eq (rarr (rval n s) s t).1]
    refine zv1 ?_
    have hone : rone (rval n s) s t = rarr (rval n s) s t := by unfold rone; rw [if_neg (by omega), if_pos (by omega)]
    simp only [hone]
    exact ⟨(.sl false 8 (lcells (rarr (rval n s) s t).1.l), .sl false 9 (mcells (rarr (rval n s) s t).1.m), _), ⟨AVle.refl _, AVle.refl _⟩, ⟨rfl, rfl, rfl, rfl, trivial⟩, rfl⟩
   ·(try rw [h2]); (try simp only [decide_eq_true_eq, decide_eq_false_iff_not, Bool.not_eq_true', Bool.not_eq_false', Int.not_lt, Int.not_le, Bool.not_true, Bool.not_false, Int.toNat_natCast, tn1, tn2, tnn, bne_iff_ne, beq_iff_eq, beq_eq_false_iff_ne, ne_eq, Decidable.not_not] at h2)
    refine zw2 ?_
    refine AWp_cond rfl (fun h3 => ?_) (fun h3 => ?_)
    ·(try rw [h3]); (try simp only [decide_eq_true_eq, decide_eq_false_iff_not, Bool.not_eq_true', Bool.not_eq_false', Int.not_lt, Int.not_le, Bool.not_true, Bool.not_false, Int.toNat_natCast, tn1, tn2, tnn, bne_iff_ne, beq_iff_eq, beq_eq_false_iff_ne, ne_eq, Decidable.not_not] at h3)
     refine AWp_regL ?_
     refine zg1 ?_
     refine zt rfl (zc rfl (callSA hp (text_r s t p _ (get_setA hp) hs hb1.ok))) ?_
     refine zv2 ?_
     have hone : rone (rval n s) s t = (.mk 3 false {} (rtext s t).1 [] [], (rtext s t).2) := by unfold rone; rw [if_neg (by omega), if_neg (by omega), if_pos (by omega)]
     simp only [hone]
     exact ⟨(.nils, .nils, _), ⟨nilL, nilM⟩, ⟨rfl, rfl, rfl, rfl, trivial⟩, rfl⟩
    ·(try rw [h3]); (try simp only [decide_eq_true_eq, decide_eq_false_iff_not, Bool.not_eq_true', Bool.not_eq_false', Int.not_lt, Int.not_le, Bool.not_true, Bool.not_false, Int.toNat_natCast, tn1, tn2, tnn, bne_iff_ne, beq_iff_eq, beq_eq_false_iff_ne, ne_eq, Decidable.not_not] at h3)
     refine zw2 ?_
     refine AWp_cond rfl (fun h4 => ?_) (fun h4 => ?_)
     ·(try rw [h4]); (try simp only [decide_eq_true_eq, decide_eq_false_iff_not, Bool.not_eq_true', Bool.not_eq_false', Int.not_lt, Int.not_le, Bool.not_true, Bool.not_false, Int.toNat_natCast, tn1, tn2, tnn, bne_iff_ne, beq_iff_eq, beq_eq_false_iff_ne, ne_eq, Decidable.not_not] at h4)
      refine AWp_regL ?_
      refine zg1 ?_
      refine zt rfl (zc rfl (callSA hp (want_c lNull s t p _ (get_setA hp) hs (by decide) hb1.ok))) ?_
      refine zon ?_
      have hone : rone (rval n s) s t = (vz, rwant s lNull t) := by unfold rone; rw [if_neg (by omega), if_neg (by omega), if_neg (by omega), if_pos (by omega)]
      simp only [hone]
      exact ⟨(.nils, .nils, _), ⟨nilL, nilM⟩, ⟨rfl, rfl, rfl, rfl, trivial⟩, rfl⟩
     ·(try rw [h4]); (try simp only [decide_eq_true_eq, decide_eq_false_iff_not, Bool.not_eq_true', Bool.not_eq_false', Int.not_lt, Int.not_le, Bool.not_true, Bool.not_false, Int.toNat_natCast, tn1, tn2, tnn, bne_iff_ne, beq_iff_eq, beq_eq_false_iff_ne, ne_eq, Decidable.not_not] at h4)
      refine zw2 ?_
      refine AWp_cond rfl (fun h5 => ?_) (fun h5 => ?_)
      ·(try rw [h5]); (try simp only [decide_eq_true_eq, decide_eq_false_iff_not, Bool.not_eq_true', Bool.not_eq_false', Int.not_lt, Int.not_le, Bool.not_true, Bool.not_false, Int.toNat_natCast, tn1, tn2, tnn, bne_iff_ne, beq_iff_eq, beq_eq_false_iff_ne, ne_eq, Decidable.not_not] at h5)
       refine zu1 ?_
       refine zt rfl (zc rfl (callSA hp (want_c lTrue s t p _ (get_setA hp) hs (by decide) hb1.ok))) ?_
       refine zon ?_
       refine AWp_regL ?_
       refine zv2 ?_
       have hone : rone (rval n s) s t = (.mk 1 true {} e0 [] [], rwant s lTrue t) := by unfold rone; rw [if_neg (by omega), if_neg (by omega), if_neg (by omega), if_neg (by omega), if_pos (by omega)]
       simp only [hone]
       exact ⟨(.nils, .nils, _), ⟨nilL, nilM⟩, ⟨rfl, rfl, rfl, rfl, trivial⟩, rfl⟩
      ·(try rw [h5]); (try simp only [decide_eq_true_eq, decide_eq_false_iff_not, Bool.not_eq_true', Bool.not_eq_false', Int.not_lt, Int.not_le, Bool.not_true, Bool.not_false, Int.toNat_natCast, tn1, tn2, tnn, bne_iff_ne, beq_iff_eq, beq_eq_false_iff_ne, ne_eq, Decidable.not_not] at h5)
       refine zw2 ?_
       refine AWp_cond rfl (fun h6 => ?_) (fun h6 => ?_)
       ·(try rw [h6]); (try simp only [decide_eq_true_eq, decide_eq_false_iff_not, Bool.not_eq_true', Bool.not_eq_false', Int.not_lt, Int.not_le, Bool.not_true, Bool.not_false, Int.toNat_natCast, tn1, tn2, tnn, bne_iff_ne, beq_iff_eq, beq_eq_false_iff_ne, ne_eq, Decidable.not_not] at h6)
        refine zu1 ?_
        refine zt rfl (zc rfl (callSA hp (want_c lFalse s t p _ (get_setA hp) hs (by decide) hb1.ok))) ?_
        refine zon ?_
        refine AWp_regL ?_
        refine zv2 ?_
        have hone : rone (rval n s) s t = (.mk 1 false {} e0 [] [], rwant s lFalse t) := by unfold rone; rw [if_neg (by omega), if_neg (by omega), if_neg (by omega), if_neg (by omega), if_neg (by omega), if_pos (by omega)]
        simp only [hone]
        exact ⟨(.nils, .nils, _), ⟨nilL, nilM⟩, ⟨rfl, rfl, rfl, rfl, trivial⟩, rfl⟩
       ·(try rw [h6]); (try simp only [decide_eq_true_eq, decide_eq_false_iff_not, Bool.not_eq_true', Bool.not_eq_false', Int.not_lt, Int.not_le, Bool.not_true, Bool.not_false, Int.toNat_natCast, tn1, tn2, tnn, bne_iff_ne, beq_iff_eq, beq_eq_false_iff_ne, ne_eq, Decidable.not_not] at h6)
        refine zu3 ?_
        refine zsp 42 rfl (fun h7 => ?_) fun h7 => ?_
        ·rw [h7]; (try simp only [decide_eq_true_eq, decide_eq_false_iff_not, Bool.not_eq_true', Bool.not_eq_false', Int.not_lt, Int.not_le, Bool.not_true, Bool.not_false, Int.toNat_natCast, tn1, tn2, tnn, bne_iff_ne, beq_iff_eq, beq_eq_false_iff_ne, ne_eq, Decidable.not_not] at h7)
         refine zv7 ?_
         refine AWp_condT rfl ?_
         refine AWp_seq ?_
         have hpk := pk_yes (s := s) (a := t.a) (bad := t.bad) (by omega)
         have hel := rEnd_le (s := s) (a := t.a) (by omega)
         refine AWp_drawL #[0, 1, 3, 7, 0, 16, 48, 112, 255, 511, 1023, 1023, 2047, 8191] Tryz.mixed (by decide +kernel) (by decide +kernel) ?_
         refine zd3 ?_
         refine zp1 ?_
         refine zd3 ?_
         refine zp1 ?_
         refine yP rfl rfl (zc rfl (end_c s t.a _ (by omega) (by omega))) (trivial) ?_
         refine zd5 ?_
         refine RP.nil rfl ?_
         refine AWp_join (ι := RS) (fun y => y = (if (rEnd s t.a).2 = true then t else rfail t (rEnd s t.a).1 1) ∧ y.a = t.a ∧ y.deep = t.deep) (fun y => ⟨[], [(0, .ptr p 0), (2, .ptr (σ.length + 0) 0), (3, .ptr (σ.length + 1) 0), (5, .int .i64 ((rEnd s t.a).1 : Int))]⟩) (fun y => σ.set p (rbox s y) ++ [.box [.int .i64 0, .bool false, .bool false, .str e0, .int .i64 0, .str e0, .nils, .nils], .box [.int .i64 0, .bool false, .bool false, .str e0, .int .i64 0, .str e0, .nils, .nils]]) ?_ (fun y hj => ?_)
         ·skip
          refine zw2 ?_
          refine AWp_cond rfl (fun h8 => ?_) (fun h8 => ?_)
          ·(try rw [h8]); (try simp only [decide_eq_true_eq, decide_eq_false_iff_not, Bool.not_eq_true', Bool.not_eq_false', Int.not_lt, Int.not_le, Bool.not_true, Bool.not_false, Int.toNat_natCast, tn1, tn2, tnn, bne_iff_ne, beq_iff_eq, beq_eq_false_iff_ne, ne_eq, Decidable.not_not] at h8)
           refine AWp_regL ?_
           refine zg2 ?_
           refine zt rfl (zc rfl (callSA hp (fail_r s t p _ (get_setA hp) ((rEnd s t.a).1 : Int) 1))) ?_
           refine zon ?_
           first | exact ⟨rfail t (rEnd s t.a).1 1, ⟨by rw [if_neg (by simp [*])], rfl, rfl⟩, ⟨rfl, rfl, rfl, rfl, rfl, trivial⟩, rfl⟩ | exact ⟨t, ⟨by rw [if_pos (by simp [*])], rfl, rfl⟩, ⟨rfl, rfl, rfl, rfl, rfl, trivial⟩, rfl⟩
          ·(try rw [h8]); (try simp only [decide_eq_true_eq, decide_eq_false_iff_not, Bool.not_eq_true', Bool.not_eq_false', Int.not_lt, Int.not_le, Bool.not_true, Bool.not_false, Int.toNat_natCast, tn1, tn2, tnn, bne_iff_ne, beq_iff_eq, beq_eq_false_iff_ne, ne_eq, Decidable.not_not] at h8)
           refine AWp_skip ?_
           first | exact ⟨rfail t (rEnd s t.a).1 1, ⟨by rw [if_neg (by simp [*])], rfl, rfl⟩, ⟨rfl, rfl, rfl, rfl, rfl, trivial⟩, rfl⟩ | exact ⟨t, ⟨by rw [if_pos (by simp [*])], rfl, rfl⟩, ⟨rfl, rfl, rfl, rfl, rfl, trivial⟩, rfl⟩
         ·skip
          obtain ⟨hy1, hy2, hy3⟩ := hj
          refine AWp_seq ?_
          refine AWp_drawL #[0, 1, 3, 7, 0, 16, 48, 112, 0, 511, 1023, 2047, 4095, 4095, 0, 24575, 65535] Tryz.mixed (by decide +kernel) (by decide +kernel) ?_
          refine zd3 ?_
          refine zp1 ?_
          refine zd3 ?_
          refine zp1 ?_
          refine zd2 ?_
          simp only [Int.toNat_natCast, hy2]
          refine yP rfl rfl (zc rfl (rnum_c (s.extract t.a (rEnd s t.a).1) _ (by rw [ByteArray.size_extract]; omega))) (trivial) ?_
          refine zd3 ?_
          refine yE rfl rfl (zoa) (⟨.inr (op_callF rfl rfl rfl Tryz.func63 rfl rfl (rnum_c (s.extract t.a (rEnd s t.a).1) _ (by rw [ByteArray.size_extract]; omega))), ⟨.inr (op_load1 rfl Tryz.isAgg3 (ldv_setA hp (by rw [← hy2]; rfl))), ⟨.inr (op_load1 rfl Tryz.isAgg9 (ldv_setA hp rfl)), trivial⟩⟩⟩) (trivial) ?_
          refine yEN rfl rfl rfl (zoa) (⟨.inl rfl, ⟨.inl rfl, ⟨.inl rfl, trivial⟩⟩⟩) (⟨rfl, trivial⟩) ?_
          refine zd1 ?_
          refine RP.nil rfl ?_
          refine AWp_join (ι := RS) (fun x => x = (if (rNum (s.extract t.a (rEnd s t.a).1)).2 = 0 then (if (rEnd s t.a).2 = true then t else rfail t (rEnd s t.a).1 1) else rfail (if (rEnd s t.a).2 = true then t else rfail t (rEnd s t.a).1 1) t.a 5) ∧ x.a = t.a ∧ x.deep = t.deep) (fun x => ⟨[], [(0, .ptr p 0), (2, .ptr (σ.length + 0) 0), (3, .ptr (σ.length + 1) 0), (5, .int .i64 ((rEnd s t.a).1 : Int)), (7, .ptr (σ.length + 2) 0)]⟩) (fun x => σ.set p (rbox s x) ++ [.box [.int .i64 0, .bool false, .bool false, .str e0, .int .i64 0, .str e0, .nils, .nils], .box [.int .i64 0, .bool false, .bool false, .str e0, .int .i64 0, .str e0, .nils, .nils], .box (ncells (rNum (s.extract t.a (rEnd s t.a).1)).1)]) ?_ (fun x hj => ?_)
          ·skip
           refine zw2 ?_
           refine AWp_cond rfl (fun h9 => ?_) (fun h9 => ?_)
           ·(try rw [h9]); (try simp only [decide_eq_true_eq, decide_eq_false_iff_not, Bool.not_eq_true', Bool.not_eq_false', Int.not_lt, Int.not_le, Bool.not_true, Bool.not_false, Int.toNat_natCast, tn1, tn2, tnn, bne_iff_ne, beq_iff_eq, beq_eq_false_iff_ne, ne_eq, Decidable.not_not] at h9)
            refine AWp_regL ?_
            refine zg5 ?_
            refine zt rfl (zc rfl (callSA hp (fail_r s y p _ (get_setA hp) (y.a : Int) 5))) ?_
            refine zon ?_
            first | exact ⟨rfail y y.a 5, ⟨by rw [if_neg (by assumption), ← hy1, hy2], hy2, hy3⟩, ⟨rfl, rfl, rfl, rfl, rfl, rfl, trivial⟩, rfl⟩ | exact ⟨y, ⟨by rw [if_pos (by assumption), ← hy1], hy2, hy3⟩, ⟨rfl, rfl, rfl, rfl, rfl, rfl, trivial⟩, rfl⟩
           ·(try rw [h9]); (try simp only [decide_eq_true_eq, decide_eq_false_iff_not, Bool.not_eq_true', Bool.not_eq_false', Int.not_lt, Int.not_le, Bool.not_true, Bool.not_false, Int.toNat_natCast, tn1, tn2, tnn, bne_iff_ne, beq_iff_eq, beq_eq_false_iff_ne, ne_eq, Decidable.not_not] at h9)
            refine AWp_skip ?_
            first | exact ⟨rfail y y.a 5, ⟨by rw [if_neg (by assumption), ← hy1, hy2], hy2, hy3⟩, ⟨rfl, rfl, rfl, rfl, rfl, rfl, trivial⟩, rfl⟩ | exact ⟨y, ⟨by rw [if_pos (by assumption), ← hy1], hy2, hy3⟩, ⟨rfl, rfl, rfl, rfl, rfl, rfl, trivial⟩, rfl⟩
          ·skip
           obtain ⟨hx1, hx2, hx3⟩ := hj
           refine zw5 ?_
           refine AWp_regL ?_
           refine zv3 ?_
           have hone : rone (rval n s) s t = rnumv s t := by unfold rone; rw [if_neg (by omega), if_neg (by omega), if_neg (by omega), if_neg (by omega), if_neg (by omega), if_neg (by omega), if_pos (by omega)]
           have hnum : rnumv s t = (.mk 2 false (rNum (s.extract t.a (rEnd s t.a).1)).1 e0 [] [], ⟨(rEnd s t.a).1, x.deep, x.bad, x.spot⟩) := by rw [hx3]; unfold rnumv; rw [← hx1]
           simp only [hone, hnum]
           exact ⟨(.nils, .nils, _), ⟨nilL, nilM⟩, ⟨rfl, rfl, rfl, rfl, trivial⟩, rfl⟩
        ·rw [h7]; (try simp only [decide_eq_true_eq, decide_eq_false_iff_not, Bool.not_eq_true', Bool.not_eq_false', Int.not_lt, Int.not_le, Bool.not_true, Bool.not_false, Int.toNat_natCast, tn1, tn2, tnn, bne_iff_ne, beq_iff_eq, beq_eq_false_iff_ne, ne_eq, Decidable.not_not] at h7)
         refine zg3 ?_
         refine zsp 45 rfl (fun h10 => ?_) fun h10 => ?_
         ·rw [h10]; (try simp only [decide_eq_true_eq, decide_eq_false_iff_not, Bool.not_eq_true', Bool.not_eq_false', Int.not_lt, Int.not_le, Bool.not_true, Bool.not_false, Int.toNat_natCast, tn1, tn2, tnn, bne_iff_ne, beq_iff_eq, beq_eq_false_iff_ne, ne_eq, Decidable.not_not] at h10)
          refine zv4 ?_
          refine AWp_cond rfl (fun h11 => ?_) (fun h11 => ?_)
          ·(try rw [h11]); (try simp only [decide_eq_true_eq, decide_eq_false_iff_not, Bool.not_eq_true', Bool.not_eq_false', Int.not_lt, Int.not_le, Bool.not_true, Bool.not_false, Int.toNat_natCast, tn1, tn2, tnn, bne_iff_ne, beq_iff_eq, beq_eq_false_iff_ne, ne_eq, Decidable.not_not] at h11)
           refine AWp_seq ?_
           have hpk := pk_yes (s := s) (a := t.a) (bad := t.bad) (by omega)
           have hel := rEnd_le (s := s) (a := t.a) (by omega)
           refine AWp_drawL #[0, 1, 3, 7, 0, 16, 48, 112, 255, 511, 1023, 1023, 2047, 8191] Tryz.mixed (by decide +kernel) (by decide +kernel) ?_
           refine zd3 ?_
           refine zp1 ?_
           refine zd3 ?_
           refine zp1 ?_
           refine yP rfl rfl (zc rfl (end_c s t.a _ (by omega) (by omega))) (trivial) ?_
           refine zd5 ?_
           refine RP.nil rfl ?_
           refine AWp_join (ι := RS) (fun y => y = (if (rEnd s t.a).2 = true then t else rfail t (rEnd s t.a).1 1) ∧ y.a = t.a ∧ y.deep = t.deep) (fun y => ⟨[], [(0, .ptr p 0), (2, .ptr (σ.length + 0) 0), (3, .ptr (σ.length + 1) 0), (5, .int .i64 ((rEnd s t.a).1 : Int))]⟩) (fun y => σ.set p (rbox s y) ++ [.box [.int .i64 0, .bool false, .bool false, .str e0, .int .i64 0, .str e0, .nils, .nils], .box [.int .i64 0, .bool false, .bool false, .str e0, .int .i64 0, .str e0, .nils, .nils]]) ?_ (fun y hj => ?_)
           ·skip
            refine zw2 ?_
            refine AWp_cond rfl (fun h12 => ?_) (fun h12 => ?_)
            ·(try rw [h12]); (try simp only [decide_eq_true_eq, decide_eq_false_iff_not, Bool.not_eq_true', Bool.not_eq_false', Int.not_lt, Int.not_le, Bool.not_true, Bool.not_false, Int.toNat_natCast, tn1, tn2, tnn, bne_iff_ne, beq_iff_eq, beq_eq_false_iff_ne, ne_eq, Decidable.not_not] at h12)
             refine AWp_regL ?_
             refine zg2 ?_
             refine zt rfl (zc rfl (callSA hp (fail_r s t p _ (get_setA hp) ((rEnd s t.a).1 : Int) 1))) ?_
             refine zon ?_
             first | exact ⟨rfail t (rEnd s t.a).1 1, ⟨by rw [if_neg (by simp [*])], rfl, rfl⟩, ⟨rfl, rfl, rfl, rfl, rfl, trivial⟩, rfl⟩ | exact ⟨t, ⟨by rw [if_pos (by simp [*])], rfl, rfl⟩, ⟨rfl, rfl, rfl, rfl, rfl, trivial⟩, rfl⟩
            ·(try rw [h12]); (try simp only [decide_eq_true_eq, decide_eq_false_iff_not, Bool.not_eq_true', Bool.not_eq_false', Int.not_lt, Int.not_le, Bool.not_true, Bool.not_false, Int.toNat_natCast, tn1, tn2, tnn, bne_iff_ne, beq_iff_eq, beq_eq_false_iff_ne, ne_eq, Decidable.not_not] at h12)
             refine AWp_skip ?_
             first | exact ⟨rfail t (rEnd s t.a).1 1, ⟨by rw [if_neg (by simp [*])], rfl, rfl⟩, ⟨rfl, rfl, rfl, rfl, rfl, trivial⟩, rfl⟩ | exact ⟨t, ⟨by rw [if_pos (by simp [*])], rfl, rfl⟩, ⟨rfl, rfl, rfl, rfl, rfl, trivial⟩, rfl⟩
           ·skip
            obtain ⟨hy1, hy2, hy3⟩ := hj
            refine AWp_seq ?_
            refine AWp_drawL #[0, 1, 3, 7, 0, 16, 48, 112, 0, 511, 1023, 2047, 4095, 4095, 0, 24575, 65535] Tryz.mixed (by decide +kernel) (by decide +kernel) ?_
            refine zd3 ?_
            refine zp1 ?_
            refine zd3 ?_
            refine zp1 ?_
            refine zd2 ?_
            simp only [Int.toNat_natCast, hy2]
            refine yP rfl rfl (zc rfl (rnum_c (s.extract t.a (rEnd s t.a).1) _ (by rw [ByteArray.size_extract]; omega))) (trivial) ?_
            refine zd3 ?_
            refine yE rfl rfl (zoa) (⟨.inr (op_callF rfl rfl rfl Tryz.func63 rfl rfl (rnum_c (s.extract t.a (rEnd s t.a).1) _ (by rw [ByteArray.size_extract]; omega))), ⟨.inr (op_load1 rfl Tryz.isAgg3 (ldv_setA hp (by rw [← hy2]; rfl))), ⟨.inr (op_load1 rfl Tryz.isAgg9 (ldv_setA hp rfl)), trivial⟩⟩⟩) (trivial) ?_
            refine yEN rfl rfl rfl (zoa) (⟨.inl rfl, ⟨.inl rfl, ⟨.inl rfl, trivial⟩⟩⟩) (⟨rfl, trivial⟩) ?_
            refine zd1 ?_
            refine RP.nil rfl ?_
            refine AWp_join (ι := RS) (fun x => x = (if (rNum (s.extract t.a (rEnd s t.a).1)).2 = 0 then (if (rEnd s t.a).2 = true then t else rfail t (rEnd s t.a).1 1) else rfail (if (rEnd s t.a).2 = true then t else rfail t (rEnd s t.a).1 1) t.a 5) ∧ x.a = t.a ∧ x.deep = t.deep) (fun x => ⟨[], [(0, .ptr p 0), (2, .ptr (σ.length + 0) 0), (3, .ptr (σ.length + 1) 0), (5, .int .i64 ((rEnd s t.a).1 : Int)), (7, .ptr (σ.length + 2) 0)]⟩) (fun x => σ.set p (rbox s x) ++ [.box [.int .i64 0, .bool false, .bool false, .str e0, .int .i64 0, .str e0, .nils, .nils], .box [.int .i64 0, .bool false, .bool false, .str e0, .int .i64 0, .str e0, .nils, .nils], .box (ncells (rNum (s.extract t.a (rEnd s t.a).1)).1)]) ?_ (fun x hj => ?_)
            ·skip
             refine zw2 ?_
             refine AWp_cond rfl (fun h13 => ?_) (fun h13 => ?_)
             ·(try rw [h13]); (try simp only [decide_eq_true_eq, decide_eq_false_iff_not, Bool.not_eq_true', Bool.not_eq_false', Int.not_lt, Int.not_le, Bool.not_true, Bool.not_false, Int.toNat_natCast, tn1, tn2, tnn, bne_iff_ne, beq_iff_eq, beq_eq_false_iff_ne, ne_eq, Decidable.not_not] at h13)
              refine AWp_regL ?_
              refine zg5 ?_
              refine zt rfl (zc rfl (callSA hp (fail_r s y p _ (get_setA hp) (y.a : Int) 5))) ?_
              refine zon ?_
              first | exact ⟨rfail y y.a 5, ⟨by rw [if_neg (by assumption), ← hy1, hy2], hy2, hy3⟩, ⟨rfl, rfl, rfl, rfl, rfl, rfl, trivial⟩, rfl⟩ | exact ⟨y, ⟨by rw [if_pos (by assumption), ← hy1], hy2, hy3⟩, ⟨rfl, rfl, rfl, rfl, rfl, rfl, trivial⟩, rfl⟩
             ·(try rw [h13]); (try simp only [decide_eq_true_eq, decide_eq_false_iff_not, Bool.not_eq_true', Bool.not_eq_false', Int.not_lt, Int.not_le, Bool.not_true, Bool.not_false, Int.toNat_natCast, tn1, tn2, tnn, bne_iff_ne, beq_iff_eq, beq_eq_false_iff_ne, ne_eq, Decidable.not_not] at h13)
              refine AWp_skip ?_
              first | exact ⟨rfail y y.a 5, ⟨by rw [if_neg (by assumption), ← hy1, hy2], hy2, hy3⟩, ⟨rfl, rfl, rfl, rfl, rfl, rfl, trivial⟩, rfl⟩ | exact ⟨y, ⟨by rw [if_pos (by assumption), ← hy1], hy2, hy3⟩, ⟨rfl, rfl, rfl, rfl, rfl, rfl, trivial⟩, rfl⟩
            ·skip
             obtain ⟨hx1, hx2, hx3⟩ := hj
             refine zw5 ?_
             refine AWp_regL ?_
             refine zv3 ?_
             have hone : rone (rval n s) s t = rnumv s t := by unfold rone; rw [if_neg (by omega), if_neg (by omega), if_neg (by omega), if_neg (by omega), if_neg (by omega), if_neg (by omega), if_pos (by omega)]
             have hnum : rnumv s t = (.mk 2 false (rNum (s.extract t.a (rEnd s t.a).1)).1 e0 [] [], ⟨(rEnd s t.a).1, x.deep, x.bad, x.spot⟩) := by rw [hx3]; unfold rnumv; rw [← hx1]
             simp only [hone, hnum]
             exact ⟨(.nils, .nils, _), ⟨nilL, nilM⟩, ⟨rfl, rfl, rfl, rfl, trivial⟩, rfl⟩
          ·(try rw [h11]); (try simp only [decide_eq_true_eq, decide_eq_false_iff_not, Bool.not_eq_true', Bool.not_eq_false', Int.not_lt, Int.not_le, Bool.not_true, Bool.not_false, Int.toNat_natCast, tn1, tn2, tnn, bne_iff_ne, beq_iff_eq, beq_eq_false_iff_ne, ne_eq, Decidable.not_not] at h11)
           refine AWp_regL ?_
           refine zg5 ?_
           refine zt rfl (zc rfl (callSA hp (fail_r s t p _ (get_setA hp) (t.a : Int) 1))) ?_
           refine zon ?_
           have hone : rone (rval n s) s t = (vz, rfail t t.a 1) := by unfold rone; rw [if_neg (by omega), if_neg (by omega), if_neg (by omega), if_neg (by omega), if_neg (by omega), if_neg (by omega), if_neg (by omega)]
           simp only [hone]
           exact ⟨(.nils, .nils, _), ⟨nilL, nilM⟩, ⟨rfl, rfl, rfl, rfl, trivial⟩, rfl⟩
         ·rw [h10]; (try simp only [decide_eq_true_eq, decide_eq_false_iff_not, Bool.not_eq_true', Bool.not_eq_false', Int.not_lt, Int.not_le, Bool.not_true, Bool.not_false, Int.toNat_natCast, tn1, tn2, tnn, bne_iff_ne, beq_iff_eq, beq_eq_false_iff_ne, ne_eq, Decidable.not_not] at h10)
          refine zv4 ?_
          refine AWp_condF rfl ?_
          refine AWp_regL ?_
          refine zg5 ?_
          refine zt rfl (zc rfl (callSA hp (fail_r s t p _ (get_setA hp) (t.a : Int) 1))) ?_
          refine zon ?_
          have hone : rone (rval n s) s t = (vz, rfail t t.a 1) := by unfold rone; rw [if_neg (by omega), if_neg (by omega), if_neg (by omega), if_neg (by omega), if_neg (by omega), if_neg (by omega), if_neg (by omega)]
          simp only [hone]
          exact ⟨(.nils, .nils, _), ⟨nilL, nilM⟩, ⟨rfl, rfl, rfl, rfl, trivial⟩, rfl⟩
 ·skip
  obtain ⟨L, M, w⟩ := z
  obtain ⟨hL, hM⟩ := hj
  simp only at hL hM ⊢
  refine AWp_seq ?_
  have hok := rone_ok hs (fun r h => rval_ok hs n r h) hb1.ok
  refine AWp_boxLeS 1 (bs' := [.int .i64 (rone (rval n s) s t).1.kind, .bool (rone (rval n s) s t).1.b, .bool (rone (rval n s) s t).1.n.neg, .str (rone (rval n s) s t).1.n.digits, .int .i64 (rone (rval n s) s t).1.n.exp, .str (rone (rval n s) s t).1.s, .sl false 8 (lcells (rone (rval n s) s t).1.l), .sl false 9 (mcells (rone (rval n s) s t).1.m)]) rfl ⟨AVle.refl _, AVle.refl _, AVle.refl _, AVle.refl _, AVle.refl _, AVle.refl _, hL, hM, trivial⟩ ?_
  refine AWp_regL ?_
  refine zg1 ?_
  refine zt rfl (zc rfl (callSA hp (blank_r s (rone (rval n s) s t).2 p _ (get_setA hp) hs hok.fwd.ok))) ?_
  refine zon ?_
  refine zw2 ?_
  refine zrt ?_
  rw [hres, vcells_eq]
  exact RQ_retS (rkvs_cons (rkv_ckS rfl rfl rfl) rfl) (x := rbox s (rblank s (rone (rval n s) s t).2)) hcl (by simp [AO.cells, AV.ltL, AV.lt]) (by simp [rks, AV.lt, AV.ltL]) ⟨rfl, rfl⟩
end Lg
set_option maxRecDepth 20000
set_option maxHeartbeats 4000000
namespace Lg
open Go Go.Proofs Go.RowKit
variable [GLay] 
theorem rpar_c (s : ByteArray) (hs : s.size ≤ 100000) (p : Nat) (σ : List AO) (hσ : σ[p]? = some (rbox s ⟨0, 0, 0, 0⟩)) : ACalls Tryz.prog 34 [.ptr p 0] σ (Ret (.agg (vcells (rpar s).1)) (σ.set p (rbox s (rpar s).2))) := value_r s hs (s.size + 2) ⟨0, 0, 0, 0⟩ p σ hσ ⟨Nat.zero_le _, fun _ => Nat.zero_le _, Int.le_refl _, Int.le_refl _⟩ (by dsimp only; omega)
theorem parse_c (s : ByteArray) (σ : List AO) (hs : s.size ≤ 100000) : ACalls Tryz.prog 10 [.str s] σ (Ret (.tup [.agg (vcells (rParse s).1), .int .i64 (rParse s).2.1, .int .i64 (rParse s).2.2]) σ) := by
 refine ACalls_bodyC Tryz.func10 rfl Tryz.ntmps10 (by rw [Tryz.results10]; exact (.ck Tryz.isAgg28 Tryz.sizeOf28 (.t (.t .nil)))) (Nat.le_of_ble_eq_true rfl) (fun hcl hal => ?_)
 refine zw3 ?_
 refine AWp_seq ?_
 refine zw3 ?_
 refine AWp_cond rfl (fun h1 => ?_) (fun h1 => ?_)
 ·(try rw [h1]); replace h1 := zcl h1
  refine zw4 ?_
  refine AWp_boxLeO 0 (bs' := [.int .i64 vz.kind, .bool vz.b, .bool vz.n.neg, .str vz.n.digits, .int .i64 vz.n.exp, .str vz.s, .sl false 8 (lcells vz.l), .sl false 9 (mcells vz.m)]) rfl ⟨AVle.refl _, AVle.refl _, AVle.refl _, AVle.refl _, AVle.refl _, AVle.refl _, nilL, nilM, trivial⟩ ?_
  refine zrt ?_
  have hE : rParse s = (vz, 5, 20000) := by unfold rParse; rw [if_pos (by omega)]
  rw [hE, vcells_eq]; exact RQ_ret (rkvs_cons (rkv_ck rfl rfl rfl) (rkvs_cons (rkv_t rfl) (rkvs_cons (rkv_t rfl) rfl))) hcl (by simp [rks, AV.lt, AV.ltL, ofConst1, ncells]) ⟨rfl, rfl⟩
 ·(try rw [h1]); replace h1 := zcl h1
  refine AWp_skip ?_
  refine zw4 ?_
  refine zu1 ?_
  refine zt rfl (zc rfl (callO 1 (rpar_c s hs (σ.length + 1) _ (by rw [get_ownT rfl]; rfl)))) ?_
  rw [vcells_eq (rpar s).1]
  refine zv2 ?_
  refine AWp_join (ι := Unit) (fun b => True) (fun b => ⟨[], [(0, .str s), (2, .ptr (σ.length + 0) 0), (5, .ptr (σ.length + 1) 0), (6, .ptr (σ.length + 2) 0)]⟩) (fun b => σ ++ [.box [.int .i64 0, .bool false, .bool false, .str e0, .int .i64 0, .str e0, .nils, .nils], rbox s (rparE s), .box [.int .i64 (rpar s).1.kind, .bool (rpar s).1.b, .bool (rpar s).1.n.neg, .str (rpar s).1.n.digits, .int .i64 (rpar s).1.n.exp, .str (rpar s).1.s, .sl false 8 (lcells (rpar s).1.l), .sl false 9 (mcells (rpar s).1.m)]]) ?_ (fun b hj => ?_)
  ·skip
   refine zu6 ?_
   refine zsp 21 rfl (fun h2 => ?_) fun h2 => ?_
   ·rw [h2]; replace h2 := zcl h2
    refine zv8 ?_
    refine AWp_cond rfl (fun h3 => ?_) (fun h3 => ?_)
    ·(try rw [h3]); replace h3 := zcl h3
     refine AWp_regL ?_
     refine zg5 ?_
     refine zt rfl (zc rfl (callO 1 (fail_r s (rpar s).2 (σ.length + 1) _ (by rw [get_ownT rfl]; rfl) ((rpar s).2.a : Int) 1))) ?_
     refine zon ?_
     refine ⟨(), trivial, ⟨rfl, rfl, rfl, rfl, rfl, trivial⟩, ?_⟩
     unfold rparE; first | (rw [if_pos ⟨by omega, by omega⟩]; rfl) | (rw [if_neg (by omega)]; rfl)
    ·(try rw [h3]); replace h3 := zcl h3
     refine AWp_skip ?_
     refine ⟨(), trivial, ⟨rfl, rfl, rfl, rfl, rfl, trivial⟩, ?_⟩
     unfold rparE; first | (rw [if_pos ⟨by omega, by omega⟩]; rfl) | (rw [if_neg (by omega)]; rfl)
   ·rw [h2]; replace h2 := zcl h2
    refine zv8 ?_
    refine AWp_condF rfl ?_
    refine AWp_skip ?_
    refine ⟨(), trivial, ⟨rfl, rfl, rfl, rfl, rfl, trivial⟩, ?_⟩
    unfold rparE; first | (rw [if_pos ⟨by omega, by omega⟩]; rfl) | (rw [if_neg (by omega)]; rfl)
  ·skip
   refine AWp_seq ?_
   refine zw5 ?_
   refine AWp_cond rfl (fun h4 => ?_) (fun h4 => ?_)
   ·(try rw [h4]); replace h4 := zcl h4
    refine AWp_seq ?_
    refine AWp_drawL #[0, 0, 2, 6, 14, 0, 32, 96, 224, 1, 543, 2047] Tryz.mixed (by decide +kernel) (by decide +kernel) ?_
    refine zd4 ?_
    refine zp1 ?_
    refine zd3 ?_
    refine zp1 ?_
    refine yEN rfl rfl rfl (zoa) (⟨.inr (op_load1 rfl Tryz.isAgg3 (ldv_own rfl rfl)), ⟨.inr (op_load1 rfl Tryz.isAgg3 (ldv_own rfl rfl)), trivial⟩⟩) (trivial) ?_
    refine zd2 ?_
    refine RP.nil rfl ?_
    refine AWp_boxLeO 0 (bs' := [.int .i64 vz.kind, .bool vz.b, .bool vz.n.neg, .str vz.n.digits, .int .i64 vz.n.exp, .str vz.s, .sl false 8 (lcells vz.l), .sl false 9 (mcells vz.m)]) rfl ⟨AVle.refl _, AVle.refl _, AVle.refl _, AVle.refl _, AVle.refl _, AVle.refl _, nilL, nilM, trivial⟩ ?_
    refine zrt ?_
    have hE : rParse s = (vz, (rparE s).bad, (rparE s).spot) := by unfold rParse; rw [if_neg (by omega), if_neg (by assumption)]
    rw [hE, vcells_eq]; exact RQ_ret (rkvs_cons (rkv_ck rfl rfl rfl) (rkvs_cons (rkv_t rfl) (rkvs_cons (rkv_t rfl) rfl))) hcl (by simp [rks, AV.lt, AV.ltL, ofConst1, ncells]) ⟨rfl, rfl⟩
   ·(try rw [h4]); replace h4 := zcl h4
    refine AWp_skip ?_
    refine zw4 ?_
    refine zrt ?_
    have hE : rParse s = ((rpar s).1, 0, 0) := by unfold rParse; rw [if_neg (by omega), if_pos (by assumption)]
    rw [hE, vcells_eq]; exact RQ_ret (rkvs_cons (rkv_ck rfl rfl rfl) (rkvs_cons (rkv_t rfl) (rkvs_cons (rkv_t rfl) rfl))) hcl (by simp [rks, AV.lt, AV.ltL, ofConst1, ncells]) ⟨rfl, rfl⟩

theorem value_c (s : ByteArray) (σ : List AO) : ACalls Tryz.prog 15 [.str s] σ (Ret (.tup [.agg (vcells (rValue s).1), .int .i64 (rValue s).2]) σ) := by
 refine ACalls_bodyC Tryz.func15 rfl Tryz.ntmps15 (by rw [Tryz.results15]; exact (.ck Tryz.isAgg28 Tryz.sizeOf28 (.t .nil))) (Nat.le_of_ble_eq_true rfl) (fun hcl hal => ?_)
 refine zw2 ?_
 refine AWp_seq ?_
 refine zw3 ?_
 refine AWp_cond rfl (fun h1 => ?_) (fun h1 => ?_)
 ·(try rw [h1]); replace h1 := zcl h1
  refine zw3 ?_
  refine AWp_boxLeO 0 (bs' := [.int .i64 vz.kind, .bool vz.b, .bool vz.n.neg, .str vz.n.digits, .int .i64 vz.n.exp, .str vz.s, .sl false 8 (lcells vz.l), .sl false 9 (mcells vz.m)]) rfl ⟨AVle.refl _, AVle.refl _, AVle.refl _, AVle.refl _, AVle.refl _, AVle.refl _, nilL, nilM, trivial⟩ ?_
  refine zrt ?_
  have hE : rValue s = (vz, 0) := by unfold rValue; rw [if_pos (by omega)]
  rw [hE, vcells_eq]; exact RQ_ret (rkvs_cons (rkv_ck rfl rfl rfl) (rkvs_cons (rkv_t rfl) rfl)) hcl (by simp [rks, AV.lt, AV.ltL, ofConst1, ncells]) ⟨rfl, rfl⟩
 ·(try rw [h1]); replace h1 := zcl h1
  refine AWp_skip ?_
  refine zu1 ?_
  refine zt rfl (zc rfl (parse_c s _ (by omega))) ?_
  rw [vcells_eq (rParse s).1]
  refine zv8 ?_
  refine AWp_seq ?_
  refine zw2 ?_
  refine AWp_cond rfl (fun h2 => ?_) (fun h2 => ?_)
  ·(try rw [h2]); replace h2 := zcl h2
   refine zw3 ?_
   refine AWp_boxLeO 0 (bs' := [.int .i64 vz.kind, .bool vz.b, .bool vz.n.neg, .str vz.n.digits, .int .i64 vz.n.exp, .str vz.s, .sl false 8 (lcells vz.l), .sl false 9 (mcells vz.m)]) rfl ⟨AVle.refl _, AVle.refl _, AVle.refl _, AVle.refl _, AVle.refl _, AVle.refl _, nilL, nilM, trivial⟩ ?_
   refine zrt ?_
   have hE : rValue s = (vz, 0) := by unfold rValue; rw [if_neg (by omega), if_neg (by assumption)]
   rw [hE, vcells_eq]; exact RQ_ret (rkvs_cons (rkv_ck rfl rfl rfl) (rkvs_cons (rkv_t rfl) rfl)) hcl (by simp [rks, AV.lt, AV.ltL, ofConst1, ncells]) ⟨rfl, rfl⟩
  ·(try rw [h2]); replace h2 := zcl h2
   refine AWp_skip ?_
   refine zw3 ?_
   refine zrt ?_
   have hE : rValue s = ((rParse s).1, 1) := by unfold rValue; rw [if_neg (by omega), if_pos (by assumption)]
   rw [hE, vcells_eq]; exact RQ_ret (rkvs_cons (rkv_ck rfl rfl rfl) (rkvs_cons (rkv_t rfl) rfl)) hcl (by simp [rks, AV.lt, AV.ltL, ofConst1, ncells]) ⟨rfl, rfl⟩
end Lg
set_option maxRecDepth 20000
set_option maxHeartbeats 4000000
namespace Lg
open Go Go.Proofs Go.RowKit
variable [GLay] [S10]
theorem rschema_c (s : ByteArray) (σ : List AO) (hs : s.size ≤ 5000) : ACalls Tryz.prog 44 [.str s] σ (Ret (.tup [.sl false 4 (noder (rSch s).1), .int .i64 (rSch s).2.1, .int .i64 (rSch s).2.2]) σ) := by
 refine ACalls_body Tryz.func44 rfl Tryz.ntmps44 (res3 Tryz.results44) (Nat.le_of_ble_eq_true rfl) (fun hcl hal => ?_)
 have hpo := rParse_ok s
 have hrs := rSch.eq_1 s
 refine zw3 ?_
 refine zu1 ?_
 refine zt rfl (zc rfl (parse_c s _ (by omega))) ?_
 generalize rParse s = z at hpo hrs ⊢
 rw [vcells_eq z.1]
 refine zv8 ?_
 refine AWp_seq ?_
 refine zw2 ?_
 refine AWp_cond rfl (fun h1 => ?_) (fun h1 => ?_)
 ·(try rw [h1]); replace h1 := zcl h1
  refine zw5 ?_
  refine AWp_slotLe 2 rfl (AVle.nils false 4) ?_ (by decide)
  refine zrt ?_
  rw [if_pos (by simpa using h1)] at hrs
  rw [hrs]
  exact ResQ_3 rfl rfl rfl hcl (by simp [AV.lt, AV.ltL, AV.ltLL]) ⟨rfl, rfl⟩
 ·(try rw [h1]); replace h1 := zcl h1
  obtain ⟨hjm, hjb, hjs, hsz⟩ := hpo (by simpa using h1)
  refine AWp_skip ?_
  refine zu1 ?_
  refine zt rfl (zc rfl (rcomp_c z.1 _ _ (vcells_eq _) hjb (by omega))) ?_
  refine zv7 ?_
  refine AWp_seq ?_
  refine zw2 ?_
  refine AWp_cond rfl (fun h2 => ?_) (fun h2 => ?_)
  ·(try rw [h2]); replace h2 := zcl h2
   refine zw4 ?_
   refine AWp_slotLe 2 rfl (AVle.nils false 4) ?_ (by decide)
   refine zrt ?_
   rw [if_neg (by simpa using h1), if_pos (by simpa using h2)] at hrs
   rw [hrs]
   exact ResQ_3 rfl rfl rfl hcl (by simp [AV.lt, AV.ltL, AV.ltLL]) ⟨rfl, rfl⟩
  ·(try rw [h2]); replace h2 := zcl h2
   have hok := jcomp_ok hjb (may_st hjm) (by omega) (by simpa using h2)
   refine AWp_skip ?_
   refine zu1 ?_
   refine zt rfl (zc rfl (rlink_c false (jcomp z.1).1 _ _ rfl hok)) ?_
   refine zv7 ?_
   refine zw5 ?_
   refine zrt ?_
   rw [if_neg (by simpa using h1), if_neg (by simpa using h2)] at hrs
   rw [hrs]
   exact ResQ_3 rfl rfl rfl hcl (by simp [AV.lt, AV.ltL]) ⟨rfl, rfl⟩

theorem nodes_c (s : ByteArray) (σ : List AO) : ACalls Tryz.prog 19 [.str s] σ (Ret (.tup [.sl false 4 (noder (rNodes s).1), .int .i64 (rNodes s).2]) σ) := by
 refine ACalls_body Tryz.func19 rfl Tryz.ntmps19 (res2 Tryz.results19) (Nat.le_of_ble_eq_true rfl) (fun hcl hal => ?_)
 have hrn := rNodes.eq_1 s
 refine zw2 ?_
 refine AWp_seq ?_
 refine zw3 ?_
 refine AWp_cond rfl (fun h1 => ?_) (fun h1 => ?_)
 ·(try rw [h1]); replace h1 := zcl h1
  refine zw2 ?_
  refine AWp_slotLe 2 rfl (AVle.nils false 4) ?_ (by decide)
  refine zrt ?_
  rw [if_pos (by omega)] at hrn
  rw [hrn]
  exact ResQ_20 rfl rfl hcl (by simp [AV.lt, AV.ltL, AV.ltLL]) ⟨rfl, rfl⟩
 ·(try rw [h1]); replace h1 := zcl h1
  refine AWp_skip ?_
  refine zu1 ?_
  refine zt rfl (zc rfl (rschema_c s _ (by omega))) ?_
  refine zv7 ?_
  refine AWp_seq ?_
  refine zw2 ?_
  refine AWp_cond rfl (fun h2 => ?_) (fun h2 => ?_)
  ·(try rw [h2]); replace h2 := zcl h2
   refine zw2 ?_
   refine AWp_slotLe 2 rfl (AVle.nils false 4) ?_ (by decide)
   refine zrt ?_
   rw [if_neg (by omega), if_pos (by simpa using h2)] at hrn
   rw [hrn]
   exact ResQ_20 rfl rfl hcl (by simp [AV.lt, AV.ltL, AV.ltLL]) ⟨rfl, rfl⟩
  ·(try rw [h2]); replace h2 := zcl h2
   refine AWp_skip ?_
   refine zw3 ?_
   refine zrt ?_
   rw [if_neg (by omega), if_neg (by simpa using h2)] at hrn
   rw [hrn]
   exact ResQ_20 rfl rfl hcl (by simp [AV.lt, AV.ltL]) ⟨rfl, rfl⟩
end Lg
set_option maxRecDepth 20000
set_option maxHeartbeats 4000000
namespace Go.Proofs
open Go.Shelf
def Tryz.laysM143_ren : Go.Shelf.Ren := ⟨fun | 143 => 188 | 219 => 216 | 217 => 235 | 225 => 236 | 224 => 237 | 267 => 238 | 266 => 249 | 314 => 250 | n => n, fun | 9 => 9 | 3 => 3 | 4 => 4 | 5 => 5 | 46 => 235 | 146 => 294 | 51 => 284 | n => n, fun | 1 => 1 | n => n⟩
theorem Tryz.laysM143 : Go.Proofs.LaysM.n143 Tryz.prog Tryz.laysM143_ren := {
  mixed := by kernel_rfl, f143 := Tryz.func188.trans (congrArg some (by kernel_rfl)), f217 := Tryz.func235.trans (congrArg some (by kernel_rfl)), f219 := Tryz.func216.trans (congrArg some (by kernel_rfl)), f224 := Tryz.func237.trans (congrArg some (by kernel_rfl)), f225 := Tryz.func236.trans (congrArg some (by kernel_rfl)), f266 := Tryz.func249.trans (congrArg some (by kernel_rfl)), f267 := Tryz.func238.trans (congrArg some (by kernel_rfl)), f314 := Tryz.func250.trans (congrArg some (by kernel_rfl)), t3 := Tryz.underlying3, a3 := Tryz.isAgg3, z3 := Tryz.sizeOf3, v3 := Tryz.zeroValue3, t4 := Tryz.underlying4, a4 := Tryz.isAgg4, z4 := Tryz.sizeOf4, v4 := Tryz.zeroValue4, t5 := Tryz.underlying5, a5 := Tryz.isAgg5, z5 := Tryz.sizeOf5, v5 := Tryz.zeroValue5, t9 := Tryz.underlying9, a9 := Tryz.isAgg9, z9 := Tryz.sizeOf9, v9 := Tryz.zeroValue9, t46 := Tryz.underlying235, a46 := Tryz.isAgg235, z46 := Tryz.sizeOf235, v46 := Tryz.zeroValue235, t51 := Tryz.underlying284, a51 := Tryz.isAgg284, z51 := Tryz.sizeOf284, v51 := Tryz.zeroValue284, t146 := Tryz.underlying294, a146 := Tryz.isAgg294, z146 := Tryz.sizeOf294, v146 := Tryz.zeroValue294, g1 := by kernel_rfl, i3 := by kernel_rfl, i4 := by kernel_rfl, i5 := by kernel_rfl, i9 := by kernel_rfl, i46 := by kernel_rfl, i51 := by kernel_rfl, i146 := by kernel_rfl, m1 := by kernel_rfl, s1_3 := fun w h => Go.Proofs.cell_of_shapedOpen_int (zero := #[.int .i64 0]) (t := 3) h (of_decide_eq_true (by kernel_rfl)) (by kernel_rfl) rfl (by kernel_rfl) (by kernel_rfl) Tryz.underlying3 }
end Go.Proofs
namespace Lg
open Go Go.Proofs Go.RowKit
class ML [GLay] : Prop where
  cell : ∃ m, ∀ w : World, Laid w → w.cell? ⟨1, 0, none⟩ = some (.int .i64 m)
section
variable [GLay] [ML]
end
theorem cell_heap0 [g : GLay] {W w : World} (hg : ∀ b, g.f b = W.heap[b]?) (hw : Laid w) {b c : Nat} {v : Value} (h : W.cell? ⟨b, c, none⟩ = some v) : w.cell? ⟨b, c, none⟩ = some v := by
  cases hb : W.heap[b]? with
  | none => simp [World.cell?, hb] at h
  | some o => rw [← h]; simp only [World.cell?, hb, hw b o ((hg b).trans hb)]
theorem ML.of [g : GLay] {W : World} (hS : W.ShapedOpen Tryz.prog) (hg : ∀ b, g.f b = W.heap[b]?) : ML := by
  obtain ⟨m, hm⟩ := Tryz.laysM143.s1_3 W hS
  exact ⟨m, fun w hw => cell_heap0 hg hw hm⟩
end Lg
set_option maxRecDepth 20000
set_option maxHeartbeats 4000000
namespace Lg
open Go Go.Proofs Go.RowKit
variable [GLay] [ML]
theorem names_c (f g : Bool) (a b : List BL) (σ : List AO) (hl : a.length ≤ 100000000) (hl2 : b.length ≤ 100000000) : ACalls Tryz.prog 20 [.sl f 1 (srow a), .sl g 1 (srow b)] σ (Ret (.int .i64 (bif pb (a = b) then 1 else 0)) σ) := by
 refine ACalls_body Tryz.func20 rfl Tryz.ntmps20 (res1 Tryz.results20) (Nat.le_of_ble_eq_true rfl) (fun hcl hal => ?_)
 have hra := srow_len a
 have hrb := srow_len b
 refine zw1 ?_
 refine AWp_seq ?_
 refine zw5 ?_
 refine AWp_cond rfl (fun h1 => ?_) (fun h1 => ?_)
 ·(try rw [h1]); replace h1 := zcl h1
  refine zw1 ?_
  refine zrt ?_
  exact ResQ_10 rfl hcl trivial (Ret_of (by rw [pb_f (fun h => h1 (by rw [h]))]; rfl))
 ·(try rw [h1]); replace h1 := zcl h1
  refine AWp_skip ?_
  refine AWp_seq ?_
  refine zw1 ?_
  refine AWp_block ?_
  -- loop 0 LIVE 0:param 1:param 4:assign 5:assign
  refine AWp_loop (ι := Nat) (fun i => i ≤ a.length ∧ ∀ (j : Nat), j < i → a[j]? = b[j]?) (fun i => ⟨[], [(0, .sl f 1 (srow a)), (1, .sl g 1 (srow b)), (5, .int .i64 (i : Int))]⟩) (fun i => σ) (fun i => a.length - i) (0) (⟨Nat.zero_le _, fun j h => absurd h (by omega)⟩) ?_ rfl (fun i hi => ?_)
  ·exact ⟨rfl, rfl, rfl, rfl, trivial⟩
  obtain ⟨hi1, hi2⟩ := hi
  refine AWp_seq ?_
  refine zw4 ?_
  refine AWp_cond rfl (fun h2 => ?_) (fun h2 => ?_)
  ·(try rw [h2]); replace h2 := zcl h2
   obtain ⟨x, hx⟩ : ∃ x, a[i]? = some x := ⟨_, List.getElem?_eq_getElem (show i < a.length by omega)⟩
   obtain ⟨y, hy⟩ : ∃ y, b[i]? = some y := ⟨_, List.getElem?_eq_getElem (show i < b.length by omega)⟩
   have hxr := srow_get hx
   have hyr := srow_get hy
   refine AWp_skip ?_
   refine AWp_seq ?_
   refine AWp_block ?_
   refine AWp_seq ?_
   refine AWp_drawL #[0, 0, 3, 7, 0, 0, 48, 112, 255] Tryz.mixed (by decide +kernel) (by decide +kernel) ?_
   refine zd2 ?_
   refine yA rfl rfl (fun _ => op_indexAddr rfl Tryz.underlying48 Tryz.sizeOf9 rfl rfl (by omega) (hxr)) ?_
   refine zp1 ?_
   refine zd2 ?_
   refine yA rfl rfl (fun _ => op_indexAddr rfl Tryz.underlying48 Tryz.sizeOf9 rfl rfl (by omega) (hyr)) ?_
   refine zp1 ?_
   refine zd1 ?_
   refine RP.nil rfl ?_
   refine AWp_cond rfl (fun h3 => ?_) (fun h3 => ?_)
   ·(try rw [h3]); replace h3 := zcl h3
    refine zw1 ?_
    refine zrt ?_
    exact ResQ_10 rfl hcl trivial (Ret_of (by rw [pb_f (fun h => h3 (by rw [h, hy] at hx; cases hx; rfl))]; rfl))
   ·(try rw [h3]); replace h3 := zcl h3
    refine AWp_skip ?_
    refine AWp_regL ?_
    refine zv3 ?_
    refine ⟨i + 1, σ.length, ⟨by omega, fun j hj => ?_⟩, by omega, Nat.le_refl _, ⟨rfl, rfl, rfl, rfl, trivial⟩, hcl, ?_, List.take_length⟩
    ·by_cases e : j = i
     ·subst e; rw [hx, hy, ba_inj.1 h3]
     ·exact hi2 j (by omega)
    ·simp [ltE, AV.lt]
  ·(try rw [h2]); replace h2 := zcl h2
   refine AWp_exit ?_
   refine zw1 ?_
   refine zrt ?_
   have hab : a = b := List.ext_getElem? fun j => by by_cases hj : j < i; exact hi2 j hj; rw [List.getElem?_eq_none (by omega), List.getElem?_eq_none (by omega)]
   exact ResQ_10 rfl hcl trivial (Ret_of (by rw [pb_t hab]; rfl))
end Lg
namespace Lg
open Go
section
variable {f : Nat → List Bool → Bool × List Bool} {i : Nat} {S : List Bool}
end
end Lg
namespace Lg
open Go
structure RW (l : List JNode) (rows : List (List AV)) : Prop where
  len : rows.length = l.length
  el : ∀ r ∈ rows, r.length = 4
  get : ∀ (j : Nat) n, l[j]? = some n → ∃ K, AV.one K = true ∧ rows[j]? = some [.str n.path, .bool n.all, .bool n.pass, K]
section
variable [GLay]
end
end Lg
namespace Lg
open Go Go.RowKit
section
variable [GLay] {P : Program} {N : Nat} {σ l : List AO} {e : Env} {Q : QA}
end
end Lg
namespace Lg
open Go
section
variable [GLay]
def hdr (n : JNode) (K : AV) : List AV := [.str n.path, .bool n.all, .bool n.pass, K]
def hd3 (n : JNode) : ByteArray × Bool × Bool := (n.path, n.all, n.pass)
end
end Lg
namespace Lg
open Go
abbrev PF := ByteArray → JV → Nat → List JNode × Int × ByteArray
structure SameN (f : ByteArray → JV → MS → MS) (g : PF) : Prop where
  bad : ∀ p x m, ¬ m.bad = 0 → f p x m = m
  ok : ∀ p x m, jmay x → m.bad = 0 → (g p x m.l.length).2.1 = 0 → (f p x m).bad = 0 ∧ (f p x m).l = m.l ++ (g p x m.l.length).1
  no : ∀ p x m, jmay x → m.bad = 0 → ¬ (g p x m.l.length).2.1 = 0 → (f p x m).bad = (g p x m.l.length).2.1 ∧ (f p x m).path = (g p x m.l.length).2.2
section
variable {f : ByteArray → JV → MS → MS} {g : PF}
end
section
variable [GLay]
def hd4 (p : ByteArray) (a b : Bool) (K : AV) : List AV := [.str p, .bool a, .bool b, K]
end
end Lg
namespace Lg
open Go
def vT : JV := .mk 1 true {} e0 [] []
def one11 : JNode := ⟨e0, true, true, []⟩
section
variable [GLay]
end
end Lg
set_option maxRecDepth 20000
set_option maxHeartbeats 4000000
namespace Lg
open Go Go.Proofs Go.RowKit
variable [GLay] [S10] [ML]
theorem namesN_c (f g : Bool) (l : List ByteArray) (σ : List AO) (hl : l.length ≤ 2000000) : ACalls Tryz.prog 20 [.sl f 1 (nrow l), .sl g 1 (nrow l)] σ (Ret (.int .i64 1) σ) := by
  have h := names_c f g (l.map nml) (l.map nml) σ (by rw [List.length_map]; omega) (by rw [List.length_map]; omega)
  rw [pb_t rfl, ← nrow_srow] at h
  exact h
theorem ownT_c (v : JV) (c2 : List AV) (σ : List AO) (h2c : vcells v = c2) (hvj : jb v) (hvm : jmay v) : ACalls Tryz.prog 21 [.agg [.str e0, .bool true, .bool true, .nils], .agg c2] σ (Ret (.sl false 1 []) σ) := by
  have h := own_c one11 v _ c2 σ rfl h2c (fun k hk => by cases hk) ⟨by decide, fun k hk => by cases hk⟩ hvj hvm
  rw [show jown one11 v = [] by unfold jown; rw [if_neg (by simp [one11])]; rfl] at h
  exact ACalls.conv (args' := [.agg (nodec one11), .agg c2]) ⟨AVle.agg ⟨AVle.refl _, AVle.refl _, AVle.refl _, AVle.nils false 10, trivial⟩, AVle.refl _, trivial⟩ h
theorem up14_c (σ : List AO) : ACalls Tryz.prog 18 [] σ (Ret (.bool true) σ) := by
 refine ACalls_body Tryz.func18 rfl Tryz.ntmps18 (res1 Tryz.results18) (Nat.le_of_ble_eq_true rfl) (fun hcl hal => ?_)
 obtain ⟨b, x, hN, hxm, hxb, hxs, hown⟩ := ex14_c
 have hpo := rParse_ok ex1v ex1v_0
 have hn0 : (noder [(⟨e0, false, b, [⟨wMIN, x, []⟩]⟩ : JNode)])[0]? = some (nodec (⟨e0, false, b, [⟨wMIN, x, []⟩]⟩ : JNode)) := rfl
 refine zw1 ?_
 refine zsr ?_
 refine zt rfl (zc rfl (nodes_c ex14 _)) ?_
 rw [hN]
 refine zv5 ?_
 refine zsr ?_
 refine zt rfl (zc rfl (value_c ex1v _)) ?_
 rw [ex1v_v, vcells_eq (rParse ex1v).1]
 refine zv6 ?_
 refine AWp_seq ?_
 refine zu1 ?_
 refine zt rfl (op_eqlF rfl rfl rfl (by show ¬ (1 : Int) = 0; decide)) ?_
 refine zg2 ?_
 refine ztG rfl rfl (op_eqlF rfl rfl rfl (by decide)) ?_
 refine zg4 ?_
 refine ztG rfl rfl (op_neqF rfl rfl rfl rfl) ?_
 refine zv1 ?_
 refine AWp_condF rfl ?_
 refine AWp_skip ?_
 refine AWp_seq ?_
 refine AWp_drawL #[0, 1, 3, 0, 15, 0, 63, 127, 255, 511, 511, 2047, 4095, 8191, 16383, 32767] Tryz.mixed (by decide +kernel) (by decide +kernel) ?_
 refine zd2 ?_
 refine zp2 ?_
 refine yP rfl rfl (zc rfl (own_c (⟨e0, false, b, [⟨wMIN, x, []⟩]⟩ : JNode) (rParse ex1v).1 _ _ _ rfl (vcells_eq _) (fun k hk => by rw [List.mem_singleton.1 hk]; exact ⟨hxs, hxm⟩) ⟨by show 1 ≤ 1000000; decide, fun k hk => by rw [List.mem_singleton.1 hk]; exact ⟨by show wMIN.size ≤ 1000000; decide, hxb, by show 0 ≤ 1000000; decide⟩⟩ hpo.2.1 hpo.1)) (trivial) ?_
 rw [hown]
 refine yA rfl rfl (fun _ => op_buildSlice [[_]] rfl Tryz.underlying48 Tryz.sizeOf9 Tryz.zeroValue9 rfl (by decide) (by decide) rfl rfl rfl rfl rfl) ?_
 refine yP rfl rfl (zc rfl (namesN_c false true [wMIN] _ (by decide))) (trivial) ?_
 refine yA rfl rfl (fun _ => op_eqlT rfl rfl rfl rfl) ?_
 refine zd2 ?_
 refine zp1 ?_
 refine yPG rfl rfl rfl (zc rfl (ownT_c (rParse ex1v).1 _ _ (vcells_eq _) hpo.2.1 hpo.1)) (trivial) ?_
 refine zd1 ?_
 refine yAG rfl rfl rfl (fun _ => op_eqlT rfl rfl rfl rfl) ?_
 refine zd2 ?_
 refine RP.nil rfl ?_
 refine zrt ?_
 exact ResQ_1 rfl hcl trivial (Ret_of rfl)
end Lg
set_option maxRecDepth 20000
set_option maxHeartbeats 4000000
namespace Lg
open Go Go.Proofs Go.RowKit
variable [GLay] [S10] [ML]
end Lg
