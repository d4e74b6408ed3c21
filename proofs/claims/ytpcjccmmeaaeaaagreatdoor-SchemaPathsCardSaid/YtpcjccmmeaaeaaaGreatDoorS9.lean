/- A part of the proof of Whatever text is handed in: the nodes that the program compiles of its value as a schema are the document's, and what is amiss is told with the document's number and pointer.: W16 W18 W19 W9 W20. -/
import Derived.Test.YtpcjccmmeaaeaaaGreatDoorS8
import Derived.Test.YtpcjccmmeaaeaaaGreatDoorS4
import Derived.Test.YtpcjccmmeaaeaaaGreatDoorS5
import Derived.Test.YtpcjccmmeaaeaaaGreatDoorS3
import Derived.Test.YtpcjccmmeaaeaaaGreatDoorS7
set_option linter.unusedVariables false
set_option linter.unusedSimpArgs false
set_option linter.unusedSectionVars false
set_option maxRecDepth 20000
set_option maxHeartbeats 4000000
namespace Lg
open Go Go.Proofs Go.RowKit
variable [GLay] 
theorem unq_c (s : ByteArray) (a : Int) (σ : List AO) (hs : s.size ≤ 1000000) : ACalls Tryz.prog 100 [.str s, .int .i64 a] σ (Ret (.tup [.str (rUnq s a).s, .int .i64 (rUnq s a).n, .int .i64 (rUnq s a).bad, .int .i64 (rUnq s a).at_]) σ) := by
 refine ACalls_body Tryz.func100 rfl Tryz.ntmps100 (res4 Tryz.results100) (Nat.le_of_ble_eq_true rfl) (fun hcl hal => ?_)
 refine zw4 ?_
 refine AWp_seq ?_
 refine zsr ?_
 have hz : (e0).size = 0 := rfl
 refine zg3 ?_
 refine zsp 21 rfl (fun h1 => ?_) fun h1 => ?_
 ·rw [h1]; (try simp only [decide_eq_true_eq, decide_eq_false_iff_not, Bool.not_eq_true', Bool.not_eq_false', Int.not_lt, Int.not_le, Bool.not_true, Bool.not_false, Int.toNat_natCast, tn1, tn2, tnn, bne_iff_ne, beq_iff_eq, beq_eq_false_iff_ne, ne_eq, Decidable.not_not] at h1)
  refine zv5 ?_
  refine AWp_condT rfl ?_
  refine zw5 ?_
  refine zrt ?_
  have hE : rUnq s a = ⟨e0, 0, 1, a⟩ := by unfold rUnq; rw [if_pos (by omega)]
  rw [hE]; exact ResQ_40 rfl rfl rfl rfl hcl (by simp [AV.lt, AV.ltL]) (Ret_of rfl)
 ·rw [h1]; (try simp only [decide_eq_true_eq, decide_eq_false_iff_not, Bool.not_eq_true', Bool.not_eq_false', Int.not_lt, Int.not_le, Bool.not_true, Bool.not_false, Int.toNat_natCast, tn1, tn2, tnn, bne_iff_ne, beq_iff_eq, beq_eq_false_iff_ne, ne_eq, Decidable.not_not] at h1)
  refine zv5 ?_
  refine AWp_cond rfl (fun h2 => ?_) (fun h2 => ?_)
  ·(try rw [h2]); (try simp only [decide_eq_true_eq, decide_eq_false_iff_not, Bool.not_eq_true', Bool.not_eq_false', Int.not_lt, Int.not_le, Bool.not_true, Bool.not_false, Int.toNat_natCast, tn1, tn2, tnn, bne_iff_ne, beq_iff_eq, beq_eq_false_iff_ne, ne_eq, Decidable.not_not] at h2)
   refine zw5 ?_
   refine zrt ?_
   have hE : rUnq s a = ⟨e0, 0, 1, a⟩ := by unfold rUnq; rw [if_pos (by omega)]
   rw [hE]; exact ResQ_40 rfl rfl rfl rfl hcl (by simp [AV.lt, AV.ltL]) (Ret_of rfl)
  ·(try rw [h2]); (try simp only [decide_eq_true_eq, decide_eq_false_iff_not, Bool.not_eq_true', Bool.not_eq_false', Int.not_lt, Int.not_le, Bool.not_true, Bool.not_false, Int.toNat_natCast, tn1, tn2, tnn, bne_iff_ne, beq_iff_eq, beq_eq_false_iff_ne, ne_eq, Decidable.not_not] at h2)
   refine AWp_skip ?_
   refine AWp_seq ?_
   refine zw4 ?_
   refine AWp_cond rfl (fun h3 => ?_) (fun h3 => ?_)
   ·(try rw [h3]); (try simp only [decide_eq_true_eq, decide_eq_false_iff_not, Bool.not_eq_true', Bool.not_eq_false', Int.not_lt, Int.not_le, Bool.not_true, Bool.not_false, Int.toNat_natCast, tn1, tn2, tnn, bne_iff_ne, beq_iff_eq, beq_eq_false_iff_ne, ne_eq, Decidable.not_not] at h3)
    refine zw5 ?_
    refine zrt ?_
    have hE : rUnq s a = ⟨e0, 0, 1, a⟩ := by unfold rUnq; rw [if_neg (by omega), if_pos (by omega)]
    rw [hE]; exact ResQ_40 rfl rfl rfl rfl hcl (by simp [AV.lt, AV.ltL]) (Ret_of rfl)
   ·(try rw [h3]); (try simp only [decide_eq_true_eq, decide_eq_false_iff_not, Bool.not_eq_true', Bool.not_eq_false', Int.not_lt, Int.not_le, Bool.not_true, Bool.not_false, Int.toNat_natCast, tn1, tn2, tnn, bne_iff_ne, beq_iff_eq, beq_eq_false_iff_ne, ne_eq, Decidable.not_not] at h3)
    refine AWp_skip ?_
    refine zw1 ?_
    refine zw3 ?_
    refine AWp_seq ?_
    refine AWp_block ?_
    -- loop 0 LIVE 0:param 1:param 4:assign 5:assign 6:assign 7:assign 8:assign 9:assign
    refine AWp_loop (ι := Nat × ByteArray) (fun q => unqF s a.toNat q.1 q.2 = rUnq s a ∧ a.toNat < q.1 ∧ q.1 ≤ s.size ∧ q.2.size ≤ q.1) (fun q => ⟨[], [(0, .str s), (1, .int .i64 a), (8, .str q.2), (9, .int .i64 (q.1 : Int))]⟩) (fun q => σ) (fun q => s.size - q.1) ((a.toNat + 1, e0)) (⟨by unfold rUnq; rw [if_neg (by omega), if_neg (by omega)], by simp only; omega, by simp only; omega, by simp only; omega⟩) ?_ rfl (fun q hq => ?_)
    ·refine ⟨rfl, rfl, rfl, rfl, ?_, trivial⟩
     simp only [Int.natCast_add, Int.toNat_of_nonneg (show 0 ≤ a by omega)]; rfl
    obtain ⟨i, out⟩ := q
    obtain ⟨hq1, hq2, hq3, hq4⟩ := hq
    simp only at hq1 hq2 hq3 hq4 ⊢
    have hbl := bat_lt s i
    refine AWp_seq ?_
    refine zw4 ?_
    refine AWp_cond rfl (fun h4 => ?_) (fun h4 => ?_)
    ·(try rw [h4]); (try simp only [decide_eq_true_eq, decide_eq_false_iff_not, Bool.not_eq_true', Bool.not_eq_false', Int.not_lt, Int.not_le, Bool.not_true, Bool.not_false, Int.toNat_natCast, tn1, tn2, tnn, bne_iff_ne, beq_iff_eq, beq_eq_false_iff_ne, ne_eq, Decidable.not_not] at h4)
     refine AWp_skip ?_
     refine AWp_block ?_
     refine zu3 ?_
     simp only [Int.toNat_natCast]
     refine zv1 ?_
     refine AWp_seq ?_
     refine zw2 ?_
     refine AWp_cond rfl (fun h5 => ?_) (fun h5 => ?_)
     ·(try rw [h5]); (try simp only [decide_eq_true_eq, decide_eq_false_iff_not, Bool.not_eq_true', Bool.not_eq_false', Int.not_lt, Int.not_le, Bool.not_true, Bool.not_false, Int.toNat_natCast, tn1, tn2, tnn, bne_iff_ne, beq_iff_eq, beq_eq_false_iff_ne, ne_eq, Decidable.not_not] at h5)
      refine zw9 ?_
      refine zrt ?_
      first | (exfalso; omega; done) | (rw [← hq1, unqF_q (by omega) (by omega)]; exact ResQ_40 rfl rfl rfl rfl hcl (by simp [AV.lt, AV.ltL]) (Ret_of (by dsimp only; rw [Int.toNat_of_nonneg (show 0 ≤ a by omega)]))) | (rw [← hq1, unqF_ctl (by omega) (by omega)]; exact ResQ_40 rfl rfl rfl rfl hcl (by simp [AV.lt, AV.ltL]) (Ret_of rfl)) | (rw [← hq1, unqF_bad (by omega) (by omega) (by omega) (by omega) (by omega)]; exact ResQ_40 rfl rfl rfl rfl hcl (by simp [AV.lt, AV.ltL]) (Ret_of rfl)) | (rw [← hq1, unqF_last (by omega) (by omega)]; exact ResQ_40 rfl rfl rfl rfl hcl (by simp [AV.lt, AV.ltL]) (Ret_of rfl)) | (rw [← hq1, unqF_hb (by omega) (by omega) (by omega) (by omega)]; exact ResQ_40 rfl rfl rfl rfl hcl (by simp [AV.lt, AV.ltL]) (Ret_of rfl)) | (rw [← hq1, unqF_sur (by omega) (by omega) (by omega) (by omega) (by omega) (by omega)]; exact ResQ_40 rfl rfl rfl rfl hcl (by simp [AV.lt, AV.ltL]) (Ret_of rfl)) | (rw [← hq1, unqF_eb (by omega) (by omega) (by omega) (by assumption)]; exact ResQ_40 rfl rfl rfl rfl hcl (by simp [AV.lt, AV.ltL]) (Ret_of rfl)) | (rw [← hq1, unqF_end (by omega)]; exact ResQ_40 rfl rfl rfl rfl hcl (by simp [AV.lt, AV.ltL]) (Ret_of rfl))
     ·(try rw [h5]); (try simp only [decide_eq_true_eq, decide_eq_false_iff_not, Bool.not_eq_true', Bool.not_eq_false', Int.not_lt, Int.not_le, Bool.not_true, Bool.not_false, Int.toNat_natCast, tn1, tn2, tnn, bne_iff_ne, beq_iff_eq, beq_eq_false_iff_ne, ne_eq, Decidable.not_not] at h5)
      refine AWp_skip ?_
      refine AWp_seq ?_
      refine zw2 ?_
      refine AWp_cond rfl (fun h6 => ?_) (fun h6 => ?_)
      ·(try rw [h6]); (try simp only [decide_eq_true_eq, decide_eq_false_iff_not, Bool.not_eq_true', Bool.not_eq_false', Int.not_lt, Int.not_le, Bool.not_true, Bool.not_false, Int.toNat_natCast, tn1, tn2, tnn, bne_iff_ne, beq_iff_eq, beq_eq_false_iff_ne, ne_eq, Decidable.not_not] at h6)
       refine zw5 ?_
       refine zrt ?_
       first | (exfalso; omega; done) | (rw [← hq1, unqF_q (by omega) (by omega)]; exact ResQ_40 rfl rfl rfl rfl hcl (by simp [AV.lt, AV.ltL]) (Ret_of (by dsimp only; rw [Int.toNat_of_nonneg (show 0 ≤ a by omega)]))) | (rw [← hq1, unqF_ctl (by omega) (by omega)]; exact ResQ_40 rfl rfl rfl rfl hcl (by simp [AV.lt, AV.ltL]) (Ret_of rfl)) | (rw [← hq1, unqF_bad (by omega) (by omega) (by omega) (by omega) (by omega)]; exact ResQ_40 rfl rfl rfl rfl hcl (by simp [AV.lt, AV.ltL]) (Ret_of rfl)) | (rw [← hq1, unqF_last (by omega) (by omega)]; exact ResQ_40 rfl rfl rfl rfl hcl (by simp [AV.lt, AV.ltL]) (Ret_of rfl)) | (rw [← hq1, unqF_hb (by omega) (by omega) (by omega) (by omega)]; exact ResQ_40 rfl rfl rfl rfl hcl (by simp [AV.lt, AV.ltL]) (Ret_of rfl)) | (rw [← hq1, unqF_sur (by omega) (by omega) (by omega) (by omega) (by omega) (by omega)]; exact ResQ_40 rfl rfl rfl rfl hcl (by simp [AV.lt, AV.ltL]) (Ret_of rfl)) | (rw [← hq1, unqF_eb (by omega) (by omega) (by omega) (by assumption)]; exact ResQ_40 rfl rfl rfl rfl hcl (by simp [AV.lt, AV.ltL]) (Ret_of rfl)) | (rw [← hq1, unqF_end (by omega)]; exact ResQ_40 rfl rfl rfl rfl hcl (by simp [AV.lt, AV.ltL]) (Ret_of rfl))
      ·(try rw [h6]); (try simp only [decide_eq_true_eq, decide_eq_false_iff_not, Bool.not_eq_true', Bool.not_eq_false', Int.not_lt, Int.not_le, Bool.not_true, Bool.not_false, Int.toNat_natCast, tn1, tn2, tnn, bne_iff_ne, beq_iff_eq, beq_eq_false_iff_ne, ne_eq, Decidable.not_not] at h6)
       refine AWp_skip ?_
       refine AWp_seq ?_
       refine zw2 ?_
       refine AWp_cond rfl (fun h7 => ?_) (fun h7 => ?_)
       ·(try rw [h7]); (try simp only [decide_eq_true_eq, decide_eq_false_iff_not, Bool.not_eq_true', Bool.not_eq_false', Int.not_lt, Int.not_le, Bool.not_true, Bool.not_false, Int.toNat_natCast, tn1, tn2, tnn, bne_iff_ne, beq_iff_eq, beq_eq_false_iff_ne, ne_eq, Decidable.not_not] at h7)
        refine zsr ?_
        have hu := u8_le (s := s) (a := i) (by omega)
        refine zg2 ?_
        refine zt rfl (zc rfl (utf8_c s (i : Int) _ (by omega) (by omega) (by omega))) ?_
        simp only [Int.toNat_natCast]
        refine zv1 ?_
        refine AWp_seq ?_
        refine zw2 ?_
        refine AWp_cond rfl (fun h8 => ?_) (fun h8 => ?_)
        ·(try rw [h8]); (try simp only [decide_eq_true_eq, decide_eq_false_iff_not, Bool.not_eq_true', Bool.not_eq_false', Int.not_lt, Int.not_le, Bool.not_true, Bool.not_false, Int.toNat_natCast, tn1, tn2, tnn, bne_iff_ne, beq_iff_eq, beq_eq_false_iff_ne, ne_eq, Decidable.not_not] at h8)
         refine zw5 ?_
         refine zrt ?_
         first | (exfalso; omega; done) | (rw [← hq1, unqF_q (by omega) (by omega)]; exact ResQ_40 rfl rfl rfl rfl hcl (by simp [AV.lt, AV.ltL]) (Ret_of (by dsimp only; rw [Int.toNat_of_nonneg (show 0 ≤ a by omega)]))) | (rw [← hq1, unqF_ctl (by omega) (by omega)]; exact ResQ_40 rfl rfl rfl rfl hcl (by simp [AV.lt, AV.ltL]) (Ret_of rfl)) | (rw [← hq1, unqF_bad (by omega) (by omega) (by omega) (by omega) (by omega)]; exact ResQ_40 rfl rfl rfl rfl hcl (by simp [AV.lt, AV.ltL]) (Ret_of rfl)) | (rw [← hq1, unqF_last (by omega) (by omega)]; exact ResQ_40 rfl rfl rfl rfl hcl (by simp [AV.lt, AV.ltL]) (Ret_of rfl)) | (rw [← hq1, unqF_hb (by omega) (by omega) (by omega) (by omega)]; exact ResQ_40 rfl rfl rfl rfl hcl (by simp [AV.lt, AV.ltL]) (Ret_of rfl)) | (rw [← hq1, unqF_sur (by omega) (by omega) (by omega) (by omega) (by omega) (by omega)]; exact ResQ_40 rfl rfl rfl rfl hcl (by simp [AV.lt, AV.ltL]) (Ret_of rfl)) | (rw [← hq1, unqF_eb (by omega) (by omega) (by omega) (by assumption)]; exact ResQ_40 rfl rfl rfl rfl hcl (by simp [AV.lt, AV.ltL]) (Ret_of rfl)) | (rw [← hq1, unqF_end (by omega)]; exact ResQ_40 rfl rfl rfl rfl hcl (by simp [AV.lt, AV.ltL]) (Ret_of rfl))
        ·(try rw [h8]); (try simp only [decide_eq_true_eq, decide_eq_false_iff_not, Bool.not_eq_true', Bool.not_eq_false', Int.not_lt, Int.not_le, Bool.not_true, Bool.not_false, Int.toNat_natCast, tn1, tn2, tnn, bne_iff_ne, beq_iff_eq, beq_eq_false_iff_ne, ne_eq, Decidable.not_not] at h8)
         refine AWp_skip ?_
         refine zu7 ?_
         simp only [Int.toNat_natCast, tnn]
         have hxs : (s.extract i (i + u8 s i)).size ≤ s.size := by rw [ByteArray.size_extract]; omega
         refine zv2 ?_
         refine zw4 ?_
         refine AWp_exit ?_
         first | exact ⟨(i + u8 s i, out ++ s.extract i (i + u8 s i)), σ.length, ⟨by rw [← hq1]; exact (unqF_plain (by omega) (by omega) (by omega) (by omega) (by omega)).symm, by simp only; omega, by simp only; omega, by simp only [ByteArray.size_append, ByteArray.size_extract]; omega⟩, by simp only; omega, Nat.le_refl _, ⟨rfl, rfl, rfl, rfl, rfl, trivial⟩, hcl, by simp [ltE, AV.lt], List.take_length⟩ | exact ⟨(i + 12, out ++ rchar (65536 + 1024 * ((rhex s (i + 2)).1 - 55296) + rlow s (i + 6) - 56320)), σ.length, ⟨by rw [← hq1]; exact (unqF_pair (by omega) (by omega) (by omega) (by omega) (by omega)).symm, by simp only; omega, by simp only; omega, by simp only [ByteArray.size_append, ByteArray.size_extract]; omega⟩, by simp only; omega, Nat.le_refl _, ⟨rfl, rfl, rfl, rfl, rfl, trivial⟩, hcl, by simp [ltE, AV.lt], List.take_length⟩ | exact ⟨(i + 6, out ++ rchar (rhex s (i + 2)).1), σ.length, ⟨by rw [← hq1]; exact (unqF_u (by omega) (by omega) (by omega) (by omega) (by omega) (by omega)).symm, by simp only; omega, by simp only; omega, by simp only [ByteArray.size_append, ByteArray.size_extract]; omega⟩, by simp only; omega, Nat.le_refl _, ⟨rfl, rfl, rfl, rfl, rfl, trivial⟩, hcl, by simp [ltE, AV.lt], List.take_length⟩ | exact ⟨(i + 2, out ++ ⟨#[UInt8.ofNat b]⟩), σ.length, ⟨by rw [← hq1]; exact (unqF_e (by omega) (by omega) (by omega) hb).symm, by simp only; omega, by simp only; omega, by simp only [ByteArray.size_append, ByteArray.size_extract]; omega⟩, by simp only; omega, Nat.le_refl _, ⟨rfl, rfl, rfl, by rw [escK_all, hb]; rfl, rfl, trivial⟩, hcl, by simp [ltE, AV.lt], List.take_length⟩
       ·(try rw [h7]); (try simp only [decide_eq_true_eq, decide_eq_false_iff_not, Bool.not_eq_true', Bool.not_eq_false', Int.not_lt, Int.not_le, Bool.not_true, Bool.not_false, Int.toNat_natCast, tn1, tn2, tnn, bne_iff_ne, beq_iff_eq, beq_eq_false_iff_ne, ne_eq, Decidable.not_not] at h7)
        refine AWp_skip ?_
        refine AWp_seq ?_
        refine zw5 ?_
        refine AWp_cond rfl (fun h9 => ?_) (fun h9 => ?_)
        ·(try rw [h9]); (try simp only [decide_eq_true_eq, decide_eq_false_iff_not, Bool.not_eq_true', Bool.not_eq_false', Int.not_lt, Int.not_le, Bool.not_true, Bool.not_false, Int.toNat_natCast, tn1, tn2, tnn, bne_iff_ne, beq_iff_eq, beq_eq_false_iff_ne, ne_eq, Decidable.not_not] at h9)
         refine zw6 ?_
         refine zrt ?_
         first | (exfalso; omega; done) | (rw [← hq1, unqF_q (by omega) (by omega)]; exact ResQ_40 rfl rfl rfl rfl hcl (by simp [AV.lt, AV.ltL]) (Ret_of (by dsimp only; rw [Int.toNat_of_nonneg (show 0 ≤ a by omega)]))) | (rw [← hq1, unqF_ctl (by omega) (by omega)]; exact ResQ_40 rfl rfl rfl rfl hcl (by simp [AV.lt, AV.ltL]) (Ret_of rfl)) | (rw [← hq1, unqF_bad (by omega) (by omega) (by omega) (by omega) (by omega)]; exact ResQ_40 rfl rfl rfl rfl hcl (by simp [AV.lt, AV.ltL]) (Ret_of rfl)) | (rw [← hq1, unqF_last (by omega) (by omega)]; exact ResQ_40 rfl rfl rfl rfl hcl (by simp [AV.lt, AV.ltL]) (Ret_of rfl)) | (rw [← hq1, unqF_hb (by omega) (by omega) (by omega) (by omega)]; exact ResQ_40 rfl rfl rfl rfl hcl (by simp [AV.lt, AV.ltL]) (Ret_of rfl)) | (rw [← hq1, unqF_sur (by omega) (by omega) (by omega) (by omega) (by omega) (by omega)]; exact ResQ_40 rfl rfl rfl rfl hcl (by simp [AV.lt, AV.ltL]) (Ret_of rfl)) | (rw [← hq1, unqF_eb (by omega) (by omega) (by omega) (by assumption)]; exact ResQ_40 rfl rfl rfl rfl hcl (by simp [AV.lt, AV.ltL]) (Ret_of rfl)) | (rw [← hq1, unqF_end (by omega)]; exact ResQ_40 rfl rfl rfl rfl hcl (by simp [AV.lt, AV.ltL]) (Ret_of rfl))
        ·(try rw [h9]); (try simp only [decide_eq_true_eq, decide_eq_false_iff_not, Bool.not_eq_true', Bool.not_eq_false', Int.not_lt, Int.not_le, Bool.not_true, Bool.not_false, Int.toNat_natCast, tn1, tn2, tnn, bne_iff_ne, beq_iff_eq, beq_eq_false_iff_ne, ne_eq, Decidable.not_not] at h9)
         refine AWp_skip ?_
         refine AWp_seq ?_
         refine zu4 ?_
         simp only [tn1]
         refine zv1 ?_
         refine AWp_cond rfl (fun h10 => ?_) (fun h10 => ?_)
         ·(try rw [h10]); (try simp only [decide_eq_true_eq, decide_eq_false_iff_not, Bool.not_eq_true', Bool.not_eq_false', Int.not_lt, Int.not_le, Bool.not_true, Bool.not_false, Int.toNat_natCast, tn1, tn2, tnn, bne_iff_ne, beq_iff_eq, beq_eq_false_iff_ne, ne_eq, Decidable.not_not] at h10)
          refine zsr ?_
          have hx := rhex_ok s (i + 2)
          have hlw := rlow_ok s (i + 6)
          have hc1 := rchar_size (65536 + 1024 * ((rhex s (i + 2)).1 - 55296) + rlow s (i + 6) - 56320)
          have hc2 := rchar_size (rhex s (i + 2)).1
          refine zg3 ?_
          refine zt rfl (zc rfl (hex_c s (i + 2) _ hs (by omega))) ?_
          refine zv5 ?_
          refine AWp_seq ?_
          refine zw2 ?_
          refine AWp_cond rfl (fun h11 => ?_) (fun h11 => ?_)
          ·(try rw [h11]); (try simp only [decide_eq_true_eq, decide_eq_false_iff_not, Bool.not_eq_true', Bool.not_eq_false', Int.not_lt, Int.not_le, Bool.not_true, Bool.not_false, Int.toNat_natCast, tn1, tn2, tnn, bne_iff_ne, beq_iff_eq, beq_eq_false_iff_ne, ne_eq, Decidable.not_not] at h11)
           refine zw5 ?_
           refine zrt ?_
           first | (exfalso; omega; done) | (rw [← hq1, unqF_q (by omega) (by omega)]; exact ResQ_40 rfl rfl rfl rfl hcl (by simp [AV.lt, AV.ltL]) (Ret_of (by dsimp only; rw [Int.toNat_of_nonneg (show 0 ≤ a by omega)]))) | (rw [← hq1, unqF_ctl (by omega) (by omega)]; exact ResQ_40 rfl rfl rfl rfl hcl (by simp [AV.lt, AV.ltL]) (Ret_of rfl)) | (rw [← hq1, unqF_bad (by omega) (by omega) (by omega) (by omega) (by omega)]; exact ResQ_40 rfl rfl rfl rfl hcl (by simp [AV.lt, AV.ltL]) (Ret_of rfl)) | (rw [← hq1, unqF_last (by omega) (by omega)]; exact ResQ_40 rfl rfl rfl rfl hcl (by simp [AV.lt, AV.ltL]) (Ret_of rfl)) | (rw [← hq1, unqF_hb (by omega) (by omega) (by omega) (by omega)]; exact ResQ_40 rfl rfl rfl rfl hcl (by simp [AV.lt, AV.ltL]) (Ret_of rfl)) | (rw [← hq1, unqF_sur (by omega) (by omega) (by omega) (by omega) (by omega) (by omega)]; exact ResQ_40 rfl rfl rfl rfl hcl (by simp [AV.lt, AV.ltL]) (Ret_of rfl)) | (rw [← hq1, unqF_eb (by omega) (by omega) (by omega) (by assumption)]; exact ResQ_40 rfl rfl rfl rfl hcl (by simp [AV.lt, AV.ltL]) (Ret_of rfl)) | (rw [← hq1, unqF_end (by omega)]; exact ResQ_40 rfl rfl rfl rfl hcl (by simp [AV.lt, AV.ltL]) (Ret_of rfl))
          ·(try rw [h11]); (try simp only [decide_eq_true_eq, decide_eq_false_iff_not, Bool.not_eq_true', Bool.not_eq_false', Int.not_lt, Int.not_le, Bool.not_true, Bool.not_false, Int.toNat_natCast, tn1, tn2, tnn, bne_iff_ne, beq_iff_eq, beq_eq_false_iff_ne, ne_eq, Decidable.not_not] at h11)
           refine AWp_skip ?_
           refine zu3 ?_
           refine zt rfl (zc rfl (low_c s (i + 6) _ hs (by omega))) ?_
           refine zv1 ?_
           refine AWp_seq ?_
           refine zu3 ?_
           refine zsp 99 rfl (fun h12 => ?_) fun h12 => ?_
           ·rw [h12]; (try simp only [decide_eq_true_eq, decide_eq_false_iff_not, Bool.not_eq_true', Bool.not_eq_false', Int.not_lt, Int.not_le, Bool.not_true, Bool.not_false, Int.toNat_natCast, tn1, tn2, tnn, bne_iff_ne, beq_iff_eq, beq_eq_false_iff_ne, ne_eq, Decidable.not_not] at h12)
            refine zg4 ?_
            refine zsp 103 rfl (fun h13 => ?_) fun h13 => ?_
            ·rw [h13]; (try simp only [decide_eq_true_eq, decide_eq_false_iff_not, Bool.not_eq_true', Bool.not_eq_false', Int.not_lt, Int.not_le, Bool.not_true, Bool.not_false, Int.toNat_natCast, tn1, tn2, tnn, bne_iff_ne, beq_iff_eq, beq_eq_false_iff_ne, ne_eq, Decidable.not_not] at h13)
             refine zv3 ?_
             refine AWp_cond rfl (fun h14 => ?_) (fun h14 => ?_)
             ·(try rw [h14]); (try simp only [decide_eq_true_eq, decide_eq_false_iff_not, Bool.not_eq_true', Bool.not_eq_false', Int.not_lt, Int.not_le, Bool.not_true, Bool.not_false, Int.toNat_natCast, tn1, tn2, tnn, bne_iff_ne, beq_iff_eq, beq_eq_false_iff_ne, ne_eq, Decidable.not_not] at h14)
              refine zu8 ?_
              refine zt rfl (zc rfl (char_c _ _ (by omega) (by omega))) ?_
              refine zv2 ?_
              refine zw3 ?_
              refine AWp_exit ?_
              first | exact ⟨(i + u8 s i, out ++ s.extract i (i + u8 s i)), σ.length, ⟨by rw [← hq1]; exact (unqF_plain (by omega) (by omega) (by omega) (by omega) (by omega)).symm, by simp only; omega, by simp only; omega, by simp only [ByteArray.size_append, ByteArray.size_extract]; omega⟩, by simp only; omega, Nat.le_refl _, ⟨rfl, rfl, rfl, rfl, rfl, trivial⟩, hcl, by simp [ltE, AV.lt], List.take_length⟩ | exact ⟨(i + 12, out ++ rchar (65536 + 1024 * ((rhex s (i + 2)).1 - 55296) + rlow s (i + 6) - 56320)), σ.length, ⟨by rw [← hq1]; exact (unqF_pair (by omega) (by omega) (by omega) (by omega) (by omega)).symm, by simp only; omega, by simp only; omega, by simp only [ByteArray.size_append, ByteArray.size_extract]; omega⟩, by simp only; omega, Nat.le_refl _, ⟨rfl, rfl, rfl, rfl, rfl, trivial⟩, hcl, by simp [ltE, AV.lt], List.take_length⟩ | exact ⟨(i + 6, out ++ rchar (rhex s (i + 2)).1), σ.length, ⟨by rw [← hq1]; exact (unqF_u (by omega) (by omega) (by omega) (by omega) (by omega) (by omega)).symm, by simp only; omega, by simp only; omega, by simp only [ByteArray.size_append, ByteArray.size_extract]; omega⟩, by simp only; omega, Nat.le_refl _, ⟨rfl, rfl, rfl, rfl, rfl, trivial⟩, hcl, by simp [ltE, AV.lt], List.take_length⟩ | exact ⟨(i + 2, out ++ ⟨#[UInt8.ofNat b]⟩), σ.length, ⟨by rw [← hq1]; exact (unqF_e (by omega) (by omega) (by omega) hb).symm, by simp only; omega, by simp only; omega, by simp only [ByteArray.size_append, ByteArray.size_extract]; omega⟩, by simp only; omega, Nat.le_refl _, ⟨rfl, rfl, rfl, by rw [escK_all, hb]; rfl, rfl, trivial⟩, hcl, by simp [ltE, AV.lt], List.take_length⟩
             ·(try rw [h14]); (try simp only [decide_eq_true_eq, decide_eq_false_iff_not, Bool.not_eq_true', Bool.not_eq_false', Int.not_lt, Int.not_le, Bool.not_true, Bool.not_false, Int.toNat_natCast, tn1, tn2, tnn, bne_iff_ne, beq_iff_eq, beq_eq_false_iff_ne, ne_eq, Decidable.not_not] at h14)
              refine AWp_skip ?_
              refine AWp_seq ?_
              refine zu3 ?_
              refine zsp 121 rfl (fun h15 => ?_) fun h15 => ?_
              ·rw [h15]; (try simp only [decide_eq_true_eq, decide_eq_false_iff_not, Bool.not_eq_true', Bool.not_eq_false', Int.not_lt, Int.not_le, Bool.not_true, Bool.not_false, Int.toNat_natCast, tn1, tn2, tnn, bne_iff_ne, beq_iff_eq, beq_eq_false_iff_ne, ne_eq, Decidable.not_not] at h15)
               refine zv3 ?_
               refine AWp_cond rfl (fun h16 => ?_) (fun h16 => ?_)
               ·(try rw [h16]); (try simp only [decide_eq_true_eq, decide_eq_false_iff_not, Bool.not_eq_true', Bool.not_eq_false', Int.not_lt, Int.not_le, Bool.not_true, Bool.not_false, Int.toNat_natCast, tn1, tn2, tnn, bne_iff_ne, beq_iff_eq, beq_eq_false_iff_ne, ne_eq, Decidable.not_not] at h16)
                refine zw5 ?_
                refine zrt ?_
                first | (exfalso; omega; done) | (rw [← hq1, unqF_q (by omega) (by omega)]; exact ResQ_40 rfl rfl rfl rfl hcl (by simp [AV.lt, AV.ltL]) (Ret_of (by dsimp only; rw [Int.toNat_of_nonneg (show 0 ≤ a by omega)]))) | (rw [← hq1, unqF_ctl (by omega) (by omega)]; exact ResQ_40 rfl rfl rfl rfl hcl (by simp [AV.lt, AV.ltL]) (Ret_of rfl)) | (rw [← hq1, unqF_bad (by omega) (by omega) (by omega) (by omega) (by omega)]; exact ResQ_40 rfl rfl rfl rfl hcl (by simp [AV.lt, AV.ltL]) (Ret_of rfl)) | (rw [← hq1, unqF_last (by omega) (by omega)]; exact ResQ_40 rfl rfl rfl rfl hcl (by simp [AV.lt, AV.ltL]) (Ret_of rfl)) | (rw [← hq1, unqF_hb (by omega) (by omega) (by omega) (by omega)]; exact ResQ_40 rfl rfl rfl rfl hcl (by simp [AV.lt, AV.ltL]) (Ret_of rfl)) | (rw [← hq1, unqF_sur (by omega) (by omega) (by omega) (by omega) (by omega) (by omega)]; exact ResQ_40 rfl rfl rfl rfl hcl (by simp [AV.lt, AV.ltL]) (Ret_of rfl)) | (rw [← hq1, unqF_eb (by omega) (by omega) (by omega) (by assumption)]; exact ResQ_40 rfl rfl rfl rfl hcl (by simp [AV.lt, AV.ltL]) (Ret_of rfl)) | (rw [← hq1, unqF_end (by omega)]; exact ResQ_40 rfl rfl rfl rfl hcl (by simp [AV.lt, AV.ltL]) (Ret_of rfl))
               ·(try rw [h16]); (try simp only [decide_eq_true_eq, decide_eq_false_iff_not, Bool.not_eq_true', Bool.not_eq_false', Int.not_lt, Int.not_le, Bool.not_true, Bool.not_false, Int.toNat_natCast, tn1, tn2, tnn, bne_iff_ne, beq_iff_eq, beq_eq_false_iff_ne, ne_eq, Decidable.not_not] at h16)
                refine AWp_skip ?_
                refine zu2 ?_
                refine zt rfl (zc rfl (char_c _ _ (by omega) (by omega))) ?_
                refine zv2 ?_
                refine zw3 ?_
                refine AWp_exit ?_
                first | exact ⟨(i + u8 s i, out ++ s.extract i (i + u8 s i)), σ.length, ⟨by rw [← hq1]; exact (unqF_plain (by omega) (by omega) (by omega) (by omega) (by omega)).symm, by simp only; omega, by simp only; omega, by simp only [ByteArray.size_append, ByteArray.size_extract]; omega⟩, by simp only; omega, Nat.le_refl _, ⟨rfl, rfl, rfl, rfl, rfl, trivial⟩, hcl, by simp [ltE, AV.lt], List.take_length⟩ | exact ⟨(i + 12, out ++ rchar (65536 + 1024 * ((rhex s (i + 2)).1 - 55296) + rlow s (i + 6) - 56320)), σ.length, ⟨by rw [← hq1]; exact (unqF_pair (by omega) (by omega) (by omega) (by omega) (by omega)).symm, by simp only; omega, by simp only; omega, by simp only [ByteArray.size_append, ByteArray.size_extract]; omega⟩, by simp only; omega, Nat.le_refl _, ⟨rfl, rfl, rfl, rfl, rfl, trivial⟩, hcl, by simp [ltE, AV.lt], List.take_length⟩ | exact ⟨(i + 6, out ++ rchar (rhex s (i + 2)).1), σ.length, ⟨by rw [← hq1]; exact (unqF_u (by omega) (by omega) (by omega) (by omega) (by omega) (by omega)).symm, by simp only; omega, by simp only; omega, by simp only [ByteArray.size_append, ByteArray.size_extract]; omega⟩, by simp only; omega, Nat.le_refl _, ⟨rfl, rfl, rfl, rfl, rfl, trivial⟩, hcl, by simp [ltE, AV.lt], List.take_length⟩ | exact ⟨(i + 2, out ++ ⟨#[UInt8.ofNat b]⟩), σ.length, ⟨by rw [← hq1]; exact (unqF_e (by omega) (by omega) (by omega) hb).symm, by simp only; omega, by simp only; omega, by simp only [ByteArray.size_append, ByteArray.size_extract]; omega⟩, by simp only; omega, Nat.le_refl _, ⟨rfl, rfl, rfl, by rw [escK_all, hb]; rfl, rfl, trivial⟩, hcl, by simp [ltE, AV.lt], List.take_length⟩
              ·rw [h15]; (try simp only [decide_eq_true_eq, decide_eq_false_iff_not, Bool.not_eq_true', Bool.not_eq_false', Int.not_lt, Int.not_le, Bool.not_true, Bool.not_false, Int.toNat_natCast, tn1, tn2, tnn, bne_iff_ne, beq_iff_eq, beq_eq_false_iff_ne, ne_eq, Decidable.not_not] at h15)
               refine zv3 ?_
               refine AWp_condF rfl ?_
               refine AWp_skip ?_
               refine zu2 ?_
               refine zt rfl (zc rfl (char_c _ _ (by omega) (by omega))) ?_
               refine zv2 ?_
               refine zw3 ?_
               refine AWp_exit ?_
               first | exact ⟨(i + u8 s i, out ++ s.extract i (i + u8 s i)), σ.length, ⟨by rw [← hq1]; exact (unqF_plain (by omega) (by omega) (by omega) (by omega) (by omega)).symm, by simp only; omega, by simp only; omega, by simp only [ByteArray.size_append, ByteArray.size_extract]; omega⟩, by simp only; omega, Nat.le_refl _, ⟨rfl, rfl, rfl, rfl, rfl, trivial⟩, hcl, by simp [ltE, AV.lt], List.take_length⟩ | exact ⟨(i + 12, out ++ rchar (65536 + 1024 * ((rhex s (i + 2)).1 - 55296) + rlow s (i + 6) - 56320)), σ.length, ⟨by rw [← hq1]; exact (unqF_pair (by omega) (by omega) (by omega) (by omega) (by omega)).symm, by simp only; omega, by simp only; omega, by simp only [ByteArray.size_append, ByteArray.size_extract]; omega⟩, by simp only; omega, Nat.le_refl _, ⟨rfl, rfl, rfl, rfl, rfl, trivial⟩, hcl, by simp [ltE, AV.lt], List.take_length⟩ | exact ⟨(i + 6, out ++ rchar (rhex s (i + 2)).1), σ.length, ⟨by rw [← hq1]; exact (unqF_u (by omega) (by omega) (by omega) (by omega) (by omega) (by omega)).symm, by simp only; omega, by simp only; omega, by simp only [ByteArray.size_append, ByteArray.size_extract]; omega⟩, by simp only; omega, Nat.le_refl _, ⟨rfl, rfl, rfl, rfl, rfl, trivial⟩, hcl, by simp [ltE, AV.lt], List.take_length⟩ | exact ⟨(i + 2, out ++ ⟨#[UInt8.ofNat b]⟩), σ.length, ⟨by rw [← hq1]; exact (unqF_e (by omega) (by omega) (by omega) hb).symm, by simp only; omega, by simp only; omega, by simp only [ByteArray.size_append, ByteArray.size_extract]; omega⟩, by simp only; omega, Nat.le_refl _, ⟨rfl, rfl, rfl, by rw [escK_all, hb]; rfl, rfl, trivial⟩, hcl, by simp [ltE, AV.lt], List.take_length⟩
            ·rw [h13]; (try simp only [decide_eq_true_eq, decide_eq_false_iff_not, Bool.not_eq_true', Bool.not_eq_false', Int.not_lt, Int.not_le, Bool.not_true, Bool.not_false, Int.toNat_natCast, tn1, tn2, tnn, bne_iff_ne, beq_iff_eq, beq_eq_false_iff_ne, ne_eq, Decidable.not_not] at h13)
             refine zv3 ?_
             refine AWp_condF rfl ?_
             refine AWp_skip ?_
             refine AWp_seq ?_
             refine zu3 ?_
             refine zsp 121 rfl (fun h17 => ?_) fun h17 => ?_
             ·rw [h17]; (try simp only [decide_eq_true_eq, decide_eq_false_iff_not, Bool.not_eq_true', Bool.not_eq_false', Int.not_lt, Int.not_le, Bool.not_true, Bool.not_false, Int.toNat_natCast, tn1, tn2, tnn, bne_iff_ne, beq_iff_eq, beq_eq_false_iff_ne, ne_eq, Decidable.not_not] at h17)
              refine zv3 ?_
              refine AWp_cond rfl (fun h18 => ?_) (fun h18 => ?_)
              ·(try rw [h18]); (try simp only [decide_eq_true_eq, decide_eq_false_iff_not, Bool.not_eq_true', Bool.not_eq_false', Int.not_lt, Int.not_le, Bool.not_true, Bool.not_false, Int.toNat_natCast, tn1, tn2, tnn, bne_iff_ne, beq_iff_eq, beq_eq_false_iff_ne, ne_eq, Decidable.not_not] at h18)
               refine zw5 ?_
               refine zrt ?_
               first | (exfalso; omega; done) | (rw [← hq1, unqF_q (by omega) (by omega)]; exact ResQ_40 rfl rfl rfl rfl hcl (by simp [AV.lt, AV.ltL]) (Ret_of (by dsimp only; rw [Int.toNat_of_nonneg (show 0 ≤ a by omega)]))) | (rw [← hq1, unqF_ctl (by omega) (by omega)]; exact ResQ_40 rfl rfl rfl rfl hcl (by simp [AV.lt, AV.ltL]) (Ret_of rfl)) | (rw [← hq1, unqF_bad (by omega) (by omega) (by omega) (by omega) (by omega)]; exact ResQ_40 rfl rfl rfl rfl hcl (by simp [AV.lt, AV.ltL]) (Ret_of rfl)) | (rw [← hq1, unqF_last (by omega) (by omega)]; exact ResQ_40 rfl rfl rfl rfl hcl (by simp [AV.lt, AV.ltL]) (Ret_of rfl)) | (rw [← hq1, unqF_hb (by omega) (by omega) (by omega) (by omega)]; exact ResQ_40 rfl rfl rfl rfl hcl (by simp [AV.lt, AV.ltL]) (Ret_of rfl)) | (rw [← hq1, unqF_sur (by omega) (by omega) (by omega) (by omega) (by omega) (by omega)]; exact ResQ_40 rfl rfl rfl rfl hcl (by simp [AV.lt, AV.ltL]) (Ret_of rfl)) | (rw [← hq1, unqF_eb (by omega) (by omega) (by omega) (by assumption)]; exact ResQ_40 rfl rfl rfl rfl hcl (by simp [AV.lt, AV.ltL]) (Ret_of rfl)) | (rw [← hq1, unqF_end (by omega)]; exact ResQ_40 rfl rfl rfl rfl hcl (by simp [AV.lt, AV.ltL]) (Ret_of rfl))
              ·(try rw [h18]); (try simp only [decide_eq_true_eq, decide_eq_false_iff_not, Bool.not_eq_true', Bool.not_eq_false', Int.not_lt, Int.not_le, Bool.not_true, Bool.not_false, Int.toNat_natCast, tn1, tn2, tnn, bne_iff_ne, beq_iff_eq, beq_eq_false_iff_ne, ne_eq, Decidable.not_not] at h18)
               refine AWp_skip ?_
               refine zu2 ?_
               refine zt rfl (zc rfl (char_c _ _ (by omega) (by omega))) ?_
               refine zv2 ?_
               refine zw3 ?_
               refine AWp_exit ?_
               first | exact ⟨(i + u8 s i, out ++ s.extract i (i + u8 s i)), σ.length, ⟨by rw [← hq1]; exact (unqF_plain (by omega) (by omega) (by omega) (by omega) (by omega)).symm, by simp only; omega, by simp only; omega, by simp only [ByteArray.size_append, ByteArray.size_extract]; omega⟩, by simp only; omega, Nat.le_refl _, ⟨rfl, rfl, rfl, rfl, rfl, trivial⟩, hcl, by simp [ltE, AV.lt], List.take_length⟩ | exact ⟨(i + 12, out ++ rchar (65536 + 1024 * ((rhex s (i + 2)).1 - 55296) + rlow s (i + 6) - 56320)), σ.length, ⟨by rw [← hq1]; exact (unqF_pair (by omega) (by omega) (by omega) (by omega) (by omega)).symm, by simp only; omega, by simp only; omega, by simp only [ByteArray.size_append, ByteArray.size_extract]; omega⟩, by simp only; omega, Nat.le_refl _, ⟨rfl, rfl, rfl, rfl, rfl, trivial⟩, hcl, by simp [ltE, AV.lt], List.take_length⟩ | exact ⟨(i + 6, out ++ rchar (rhex s (i + 2)).1), σ.length, ⟨by rw [← hq1]; exact (unqF_u (by omega) (by omega) (by omega) (by omega) (by omega) (by omega)).symm, by simp only; omega, by simp only; omega, by simp only [ByteArray.size_append, ByteArray.size_extract]; omega⟩, by simp only; omega, Nat.le_refl _, ⟨rfl, rfl, rfl, rfl, rfl, trivial⟩, hcl, by simp [ltE, AV.lt], List.take_length⟩ | exact ⟨(i + 2, out ++ ⟨#[UInt8.ofNat b]⟩), σ.length, ⟨by rw [← hq1]; exact (unqF_e (by omega) (by omega) (by omega) hb).symm, by simp only; omega, by simp only; omega, by simp only [ByteArray.size_append, ByteArray.size_extract]; omega⟩, by simp only; omega, Nat.le_refl _, ⟨rfl, rfl, rfl, by rw [escK_all, hb]; rfl, rfl, trivial⟩, hcl, by simp [ltE, AV.lt], List.take_length⟩
             ·rw [h17]; (try simp only [decide_eq_true_eq, decide_eq_false_iff_not, Bool.not_eq_true', Bool.not_eq_false', Int.not_lt, Int.not_le, Bool.not_true, Bool.not_false, Int.toNat_natCast, tn1, tn2, tnn, bne_iff_ne, beq_iff_eq, beq_eq_false_iff_ne, ne_eq, Decidable.not_not] at h17)
              refine zv3 ?_
              refine AWp_condF rfl ?_
              refine AWp_skip ?_
              refine zu2 ?_
              refine zt rfl (zc rfl (char_c _ _ (by omega) (by omega))) ?_
              refine zv2 ?_
              refine zw3 ?_
              refine AWp_exit ?_
              first | exact ⟨(i + u8 s i, out ++ s.extract i (i + u8 s i)), σ.length, ⟨by rw [← hq1]; exact (unqF_plain (by omega) (by omega) (by omega) (by omega) (by omega)).symm, by simp only; omega, by simp only; omega, by simp only [ByteArray.size_append, ByteArray.size_extract]; omega⟩, by simp only; omega, Nat.le_refl _, ⟨rfl, rfl, rfl, rfl, rfl, trivial⟩, hcl, by simp [ltE, AV.lt], List.take_length⟩ | exact ⟨(i + 12, out ++ rchar (65536 + 1024 * ((rhex s (i + 2)).1 - 55296) + rlow s (i + 6) - 56320)), σ.length, ⟨by rw [← hq1]; exact (unqF_pair (by omega) (by omega) (by omega) (by omega) (by omega)).symm, by simp only; omega, by simp only; omega, by simp only [ByteArray.size_append, ByteArray.size_extract]; omega⟩, by simp only; omega, Nat.le_refl _, ⟨rfl, rfl, rfl, rfl, rfl, trivial⟩, hcl, by simp [ltE, AV.lt], List.take_length⟩ | exact ⟨(i + 6, out ++ rchar (rhex s (i + 2)).1), σ.length, ⟨by rw [← hq1]; exact (unqF_u (by omega) (by omega) (by omega) (by omega) (by omega) (by omega)).symm, by simp only; omega, by simp only; omega, by simp only [ByteArray.size_append, ByteArray.size_extract]; omega⟩, by simp only; omega, Nat.le_refl _, ⟨rfl, rfl, rfl, rfl, rfl, trivial⟩, hcl, by simp [ltE, AV.lt], List.take_length⟩ | exact ⟨(i + 2, out ++ ⟨#[UInt8.ofNat b]⟩), σ.length, ⟨by rw [← hq1]; exact (unqF_e (by omega) (by omega) (by omega) hb).symm, by simp only; omega, by simp only; omega, by simp only [ByteArray.size_append, ByteArray.size_extract]; omega⟩, by simp only; omega, Nat.le_refl _, ⟨rfl, rfl, rfl, by rw [escK_all, hb]; rfl, rfl, trivial⟩, hcl, by simp [ltE, AV.lt], List.take_length⟩
           ·rw [h12]; (try simp only [decide_eq_true_eq, decide_eq_false_iff_not, Bool.not_eq_true', Bool.not_eq_false', Int.not_lt, Int.not_le, Bool.not_true, Bool.not_false, Int.toNat_natCast, tn1, tn2, tnn, bne_iff_ne, beq_iff_eq, beq_eq_false_iff_ne, ne_eq, Decidable.not_not] at h12)
            refine zv7 ?_
            refine AWp_condF rfl ?_
            refine AWp_skip ?_
            refine AWp_seq ?_
            refine zu3 ?_
            refine zsp 121 rfl (fun h19 => ?_) fun h19 => ?_
            ·rw [h19]; (try simp only [decide_eq_true_eq, decide_eq_false_iff_not, Bool.not_eq_true', Bool.not_eq_false', Int.not_lt, Int.not_le, Bool.not_true, Bool.not_false, Int.toNat_natCast, tn1, tn2, tnn, bne_iff_ne, beq_iff_eq, beq_eq_false_iff_ne, ne_eq, Decidable.not_not] at h19)
             refine zv3 ?_
             refine AWp_cond rfl (fun h20 => ?_) (fun h20 => ?_)
             ·(try rw [h20]); (try simp only [decide_eq_true_eq, decide_eq_false_iff_not, Bool.not_eq_true', Bool.not_eq_false', Int.not_lt, Int.not_le, Bool.not_true, Bool.not_false, Int.toNat_natCast, tn1, tn2, tnn, bne_iff_ne, beq_iff_eq, beq_eq_false_iff_ne, ne_eq, Decidable.not_not] at h20)
              refine zw5 ?_
              refine zrt ?_
              first | (exfalso; omega; done) | (rw [← hq1, unqF_q (by omega) (by omega)]; exact ResQ_40 rfl rfl rfl rfl hcl (by simp [AV.lt, AV.ltL]) (Ret_of (by dsimp only; rw [Int.toNat_of_nonneg (show 0 ≤ a by omega)]))) | (rw [← hq1, unqF_ctl (by omega) (by omega)]; exact ResQ_40 rfl rfl rfl rfl hcl (by simp [AV.lt, AV.ltL]) (Ret_of rfl)) | (rw [← hq1, unqF_bad (by omega) (by omega) (by omega) (by omega) (by omega)]; exact ResQ_40 rfl rfl rfl rfl hcl (by simp [AV.lt, AV.ltL]) (Ret_of rfl)) | (rw [← hq1, unqF_last (by omega) (by omega)]; exact ResQ_40 rfl rfl rfl rfl hcl (by simp [AV.lt, AV.ltL]) (Ret_of rfl)) | (rw [← hq1, unqF_hb (by omega) (by omega) (by omega) (by omega)]; exact ResQ_40 rfl rfl rfl rfl hcl (by simp [AV.lt, AV.ltL]) (Ret_of rfl)) | (rw [← hq1, unqF_sur (by omega) (by omega) (by omega) (by omega) (by omega) (by omega)]; exact ResQ_40 rfl rfl rfl rfl hcl (by simp [AV.lt, AV.ltL]) (Ret_of rfl)) | (rw [← hq1, unqF_eb (by omega) (by omega) (by omega) (by assumption)]; exact ResQ_40 rfl rfl rfl rfl hcl (by simp [AV.lt, AV.ltL]) (Ret_of rfl)) | (rw [← hq1, unqF_end (by omega)]; exact ResQ_40 rfl rfl rfl rfl hcl (by simp [AV.lt, AV.ltL]) (Ret_of rfl))
             ·(try rw [h20]); (try simp only [decide_eq_true_eq, decide_eq_false_iff_not, Bool.not_eq_true', Bool.not_eq_false', Int.not_lt, Int.not_le, Bool.not_true, Bool.not_false, Int.toNat_natCast, tn1, tn2, tnn, bne_iff_ne, beq_iff_eq, beq_eq_false_iff_ne, ne_eq, Decidable.not_not] at h20)
              refine AWp_skip ?_
              refine zu2 ?_
              refine zt rfl (zc rfl (char_c _ _ (by omega) (by omega))) ?_
              refine zv2 ?_
              refine zw3 ?_
              refine AWp_exit ?_
              first | exact ⟨(i + u8 s i, out ++ s.extract i (i + u8 s i)), σ.length, ⟨by rw [← hq1]; exact (unqF_plain (by omega) (by omega) (by omega) (by omega) (by omega)).symm, by simp only; omega, by simp only; omega, by simp only [ByteArray.size_append, ByteArray.size_extract]; omega⟩, by simp only; omega, Nat.le_refl _, ⟨rfl, rfl, rfl, rfl, rfl, trivial⟩, hcl, by simp [ltE, AV.lt], List.take_length⟩ | exact ⟨(i + 12, out ++ rchar (65536 + 1024 * ((rhex s (i + 2)).1 - 55296) + rlow s (i + 6) - 56320)), σ.length, ⟨by rw [← hq1]; exact (unqF_pair (by omega) (by omega) (by omega) (by omega) (by omega)).symm, by simp only; omega, by simp only; omega, by simp only [ByteArray.size_append, ByteArray.size_extract]; omega⟩, by simp only; omega, Nat.le_refl _, ⟨rfl, rfl, rfl, rfl, rfl, trivial⟩, hcl, by simp [ltE, AV.lt], List.take_length⟩ | exact ⟨(i + 6, out ++ rchar (rhex s (i + 2)).1), σ.length, ⟨by rw [← hq1]; exact (unqF_u (by omega) (by omega) (by omega) (by omega) (by omega) (by omega)).symm, by simp only; omega, by simp only; omega, by simp only [ByteArray.size_append, ByteArray.size_extract]; omega⟩, by simp only; omega, Nat.le_refl _, ⟨rfl, rfl, rfl, rfl, rfl, trivial⟩, hcl, by simp [ltE, AV.lt], List.take_length⟩ | exact ⟨(i + 2, out ++ ⟨#[UInt8.ofNat b]⟩), σ.length, ⟨by rw [← hq1]; exact (unqF_e (by omega) (by omega) (by omega) hb).symm, by simp only; omega, by simp only; omega, by simp only [ByteArray.size_append, ByteArray.size_extract]; omega⟩, by simp only; omega, Nat.le_refl _, ⟨rfl, rfl, rfl, by rw [escK_all, hb]; rfl, rfl, trivial⟩, hcl, by simp [ltE, AV.lt], List.take_length⟩
            ·rw [h19]; (try simp only [decide_eq_true_eq, decide_eq_false_iff_not, Bool.not_eq_true', Bool.not_eq_false', Int.not_lt, Int.not_le, Bool.not_true, Bool.not_false, Int.toNat_natCast, tn1, tn2, tnn, bne_iff_ne, beq_iff_eq, beq_eq_false_iff_ne, ne_eq, Decidable.not_not] at h19)
             refine zv3 ?_
             refine AWp_condF rfl ?_
             refine AWp_skip ?_
             refine zu2 ?_
             refine zt rfl (zc rfl (char_c _ _ (by omega) (by omega))) ?_
             refine zv2 ?_
             refine zw3 ?_
             refine AWp_exit ?_
             first | exact ⟨(i + u8 s i, out ++ s.extract i (i + u8 s i)), σ.length, ⟨by rw [← hq1]; exact (unqF_plain (by omega) (by omega) (by omega) (by omega) (by omega)).symm, by simp only; omega, by simp only; omega, by simp only [ByteArray.size_append, ByteArray.size_extract]; omega⟩, by simp only; omega, Nat.le_refl _, ⟨rfl, rfl, rfl, rfl, rfl, trivial⟩, hcl, by simp [ltE, AV.lt], List.take_length⟩ | exact ⟨(i + 12, out ++ rchar (65536 + 1024 * ((rhex s (i + 2)).1 - 55296) + rlow s (i + 6) - 56320)), σ.length, ⟨by rw [← hq1]; exact (unqF_pair (by omega) (by omega) (by omega) (by omega) (by omega)).symm, by simp only; omega, by simp only; omega, by simp only [ByteArray.size_append, ByteArray.size_extract]; omega⟩, by simp only; omega, Nat.le_refl _, ⟨rfl, rfl, rfl, rfl, rfl, trivial⟩, hcl, by simp [ltE, AV.lt], List.take_length⟩ | exact ⟨(i + 6, out ++ rchar (rhex s (i + 2)).1), σ.length, ⟨by rw [← hq1]; exact (unqF_u (by omega) (by omega) (by omega) (by omega) (by omega) (by omega)).symm, by simp only; omega, by simp only; omega, by simp only [ByteArray.size_append, ByteArray.size_extract]; omega⟩, by simp only; omega, Nat.le_refl _, ⟨rfl, rfl, rfl, rfl, rfl, trivial⟩, hcl, by simp [ltE, AV.lt], List.take_length⟩ | exact ⟨(i + 2, out ++ ⟨#[UInt8.ofNat b]⟩), σ.length, ⟨by rw [← hq1]; exact (unqF_e (by omega) (by omega) (by omega) hb).symm, by simp only; omega, by simp only; omega, by simp only [ByteArray.size_append, ByteArray.size_extract]; omega⟩, by simp only; omega, Nat.le_refl _, ⟨rfl, rfl, rfl, by rw [escK_all, hb]; rfl, rfl, trivial⟩, hcl, by simp [ltE, AV.lt], List.take_length⟩
         ·(try rw [h10]); (try simp only [decide_eq_true_eq, decide_eq_false_iff_not, Bool.not_eq_true', Bool.not_eq_false', Int.not_lt, Int.not_le, Bool.not_true, Bool.not_false, Int.toNat_natCast, tn1, tn2, tnn, bne_iff_ne, beq_iff_eq, beq_eq_false_iff_ne, ne_eq, Decidable.not_not] at h10)
          refine AWp_skip ?_
          refine zw1 ?_
          refine zsr ?_
          refine zt rfl (op_buildSlice [[_], [_], [_], [_], [_], [_], [_], [_]] rfl Tryz.underlying146 Tryz.sizeOf5 Tryz.zeroValue5 rfl (by decide) (by decide) rfl rfl rfl rfl rfl) ?_
          refine zv1 ?_
          refine zw1 ?_
          refine AWp_seq ?_
          refine zw1 ?_
          refine AWp_block ?_
          -- loop 1 LIVE 0:param 4:assign 5:assign 6:assign 7:assign 8:assign 9:assign 15:assign 16:assign 17:assign 18:assign
          refine AWp_loop (ι := Nat) (fun k => k ≤ 8) (fun k => ⟨[], [(0, .str s), (1, .int .i64 a), (8, .str (escO out (escK (bat s (i + 1)).toNat k))), (9, .int .i64 (i : Int)), (15, .str fromS), (16, .sl true 1 [[AV.int .u8 34], [AV.int .u8 92], [AV.int .u8 47], [AV.int .u8 8], [AV.int .u8 12], [AV.int .u8 10], [AV.int .u8 13], [AV.int .u8 9]]), (17, .bool (escK (bat s (i + 1)).toNat k).isSome), (18, .int .i64 (k : Int))]⟩) (fun k => σ) (fun k => 8 - k) (0) (Nat.zero_le _) ?_ rfl (fun k hk => ?_)
          ·exact ⟨rfl, rfl, rfl, rfl, rfl, rfl, rfl, rfl, rfl, trivial⟩
          have hfs : fromS.size = 8 := rfl
          have hos := escO_size out (escK (bat s (i + 1)).toNat k)
          have htb := @toB_lt k
          refine AWp_seq ?_
          refine zw4 ?_
          refine AWp_cond rfl (fun h21 => ?_) (fun h21 => ?_)
          ·(try rw [h21]); (try simp only [decide_eq_true_eq, decide_eq_false_iff_not, Bool.not_eq_true', Bool.not_eq_false', Int.not_lt, Int.not_le, Bool.not_true, Bool.not_false, Int.toNat_natCast, tn1, tn2, tnn, bne_iff_ne, beq_iff_eq, beq_eq_false_iff_ne, ne_eq, Decidable.not_not] at h21)
           refine AWp_skip ?_
           refine AWp_seq ?_
           refine AWp_block ?_
           refine AWp_seq ?_
           refine AWp_drawL #[0, 0, 3, 0, 0, 16, 56, 127] Tryz.mixed (by decide +kernel) (by decide +kernel) ?_
           refine zd7 ?_
           simp only [tn1, Int.toNat_natCast]
           refine zd1 ?_
           refine RP.nil rfl ?_
           refine AWp_cond rfl (fun h22 => ?_) (fun h22 => ?_)
           ·(try rw [h22]); (try simp only [decide_eq_true_eq, decide_eq_false_iff_not, Bool.not_eq_true', Bool.not_eq_false', Int.not_lt, Int.not_le, Bool.not_true, Bool.not_false, Int.toNat_natCast, tn1, tn2, tnn, bne_iff_ne, beq_iff_eq, beq_eq_false_iff_ne, ne_eq, Decidable.not_not] at h22)
            refine zu3 ?_
            refine zt rfl (op_indexAddr rfl Tryz.underlying146 Tryz.sizeOf5 rfl rfl (by omega) (to_row (by omega))) ?_
            simp only [Int.toNat_natCast]
            refine zg1 ?_
            refine zt rfl (op_buildSlice [[_]] rfl Tryz.underlying146 Tryz.sizeOf5 Tryz.zeroValue5 rfl (by decide) (by decide) rfl rfl rfl rfl rfl) ?_
            refine zt rfl (op_bytesStr (b := _) (m := 1) rfl Tryz.underlying146 Tryz.underlying5 Tryz.underlying9 (bs1 ⟨by omega, by omega⟩) rfl rfl) ?_
            have h1s : (ByteArray.mk #[u8b (toB k : Int)]).size = 1 := rfl
            refine zv2 ?_
            refine AWp_regL ?_
            refine zv1 ?_
            refine AWp_regL ?_
            refine zv3 ?_
            have hk8 : k < 8 := by omega
            have hhit := escK_hit (c := (bat s (i + 1)).toNat) hk8 (by omega)
            have hho := escO_hit (out := out) (c := (bat s (i + 1)).toNat) hk8 (by omega)
            refine ⟨k + 1, σ.length, by omega, by omega, Nat.le_refl _, ⟨rfl, rfl, rfl, ?_, rfl, rfl, rfl, ?_, rfl, trivial⟩, hcl, ?_, List.take_length⟩
            ·rw [← hho]; rfl
            ·rw [hhit.2]; rfl
            ·simp [ltE, AV.lt, AV.ltL, AV.ltLL]
           ·(try rw [h22]); (try simp only [decide_eq_true_eq, decide_eq_false_iff_not, Bool.not_eq_true', Bool.not_eq_false', Int.not_lt, Int.not_le, Bool.not_true, Bool.not_false, Int.toNat_natCast, tn1, tn2, tnn, bne_iff_ne, beq_iff_eq, beq_eq_false_iff_ne, ne_eq, Decidable.not_not] at h22)
            refine AWp_skip ?_
            refine AWp_regL ?_
            refine zv3 ?_
            have hk8 : k < 8 := by omega
            have hmiss := escK_miss (c := (bat s (i + 1)).toNat) hk8 (by omega)
            refine ⟨k + 1, σ.length, by omega, by omega, Nat.le_refl _, ⟨rfl, rfl, rfl, ?_, rfl, rfl, rfl, ?_, rfl, trivial⟩, hcl, ?_, List.take_length⟩
            ·rw [hmiss]; rfl
            ·rw [hmiss]; rfl
            ·simp [ltE, AV.lt, AV.ltL, AV.ltLL]
          ·(try rw [h21]); (try simp only [decide_eq_true_eq, decide_eq_false_iff_not, Bool.not_eq_true', Bool.not_eq_false', Int.not_lt, Int.not_le, Bool.not_true, Bool.not_false, Int.toNat_natCast, tn1, tn2, tnn, bne_iff_ne, beq_iff_eq, beq_eq_false_iff_ne, ne_eq, Decidable.not_not] at h21)
           refine AWp_exit ?_
           refine AWp_seq ?_
           refine zw2 ?_
           refine AWp_cond rfl (fun h23 => ?_) (fun h23 => ?_)
           ·(try rw [h23]); (try simp only [decide_eq_true_eq, decide_eq_false_iff_not, Bool.not_eq_true', Bool.not_eq_false', Int.not_lt, Int.not_le, Bool.not_true, Bool.not_false, Int.toNat_natCast, tn1, tn2, tnn, bne_iff_ne, beq_iff_eq, beq_eq_false_iff_ne, ne_eq, Decidable.not_not] at h23)
            have h8 : k = 8 := by omega
            subst h8
            rw [escK_all] at h23
            have h23 := Option.isNone_iff_eq_none.1 (by rw [← Option.not_isSome, h23]; rfl)
            refine zw6 ?_
            refine zrt ?_
            first | (exfalso; omega; done) | (rw [← hq1, unqF_q (by omega) (by omega)]; exact ResQ_40 rfl rfl rfl rfl hcl (by simp [AV.lt, AV.ltL]) (Ret_of (by dsimp only; rw [Int.toNat_of_nonneg (show 0 ≤ a by omega)]))) | (rw [← hq1, unqF_ctl (by omega) (by omega)]; exact ResQ_40 rfl rfl rfl rfl hcl (by simp [AV.lt, AV.ltL]) (Ret_of rfl)) | (rw [← hq1, unqF_bad (by omega) (by omega) (by omega) (by omega) (by omega)]; exact ResQ_40 rfl rfl rfl rfl hcl (by simp [AV.lt, AV.ltL]) (Ret_of rfl)) | (rw [← hq1, unqF_last (by omega) (by omega)]; exact ResQ_40 rfl rfl rfl rfl hcl (by simp [AV.lt, AV.ltL]) (Ret_of rfl)) | (rw [← hq1, unqF_hb (by omega) (by omega) (by omega) (by omega)]; exact ResQ_40 rfl rfl rfl rfl hcl (by simp [AV.lt, AV.ltL]) (Ret_of rfl)) | (rw [← hq1, unqF_sur (by omega) (by omega) (by omega) (by omega) (by omega) (by omega)]; exact ResQ_40 rfl rfl rfl rfl hcl (by simp [AV.lt, AV.ltL]) (Ret_of rfl)) | (rw [← hq1, unqF_eb (by omega) (by omega) (by omega) (by assumption)]; exact ResQ_40 rfl rfl rfl rfl hcl (by simp [AV.lt, AV.ltL]) (Ret_of rfl)) | (rw [← hq1, unqF_end (by omega)]; exact ResQ_40 rfl rfl rfl rfl hcl (by simp [AV.lt, AV.ltL]) (Ret_of rfl))
           ·(try rw [h23]); (try simp only [decide_eq_true_eq, decide_eq_false_iff_not, Bool.not_eq_true', Bool.not_eq_false', Int.not_lt, Int.not_le, Bool.not_true, Bool.not_false, Int.toNat_natCast, tn1, tn2, tnn, bne_iff_ne, beq_iff_eq, beq_eq_false_iff_ne, ne_eq, Decidable.not_not] at h23)
            have h8 : k = 8 := by omega
            subst h8
            rw [escK_all] at h23
            obtain ⟨b, hb⟩ := Option.isSome_iff_exists.1 h23
            have h1b : (ByteArray.mk #[UInt8.ofNat b]).size = 1 := rfl
            refine AWp_skip ?_
            refine AWp_regL ?_
            refine zv3 ?_
            first | exact ⟨(i + u8 s i, out ++ s.extract i (i + u8 s i)), σ.length, ⟨by rw [← hq1]; exact (unqF_plain (by omega) (by omega) (by omega) (by omega) (by omega)).symm, by simp only; omega, by simp only; omega, by simp only [ByteArray.size_append, ByteArray.size_extract]; omega⟩, by simp only; omega, Nat.le_refl _, ⟨rfl, rfl, rfl, rfl, rfl, trivial⟩, hcl, by simp [ltE, AV.lt], List.take_length⟩ | exact ⟨(i + 12, out ++ rchar (65536 + 1024 * ((rhex s (i + 2)).1 - 55296) + rlow s (i + 6) - 56320)), σ.length, ⟨by rw [← hq1]; exact (unqF_pair (by omega) (by omega) (by omega) (by omega) (by omega)).symm, by simp only; omega, by simp only; omega, by simp only [ByteArray.size_append, ByteArray.size_extract]; omega⟩, by simp only; omega, Nat.le_refl _, ⟨rfl, rfl, rfl, rfl, rfl, trivial⟩, hcl, by simp [ltE, AV.lt], List.take_length⟩ | exact ⟨(i + 6, out ++ rchar (rhex s (i + 2)).1), σ.length, ⟨by rw [← hq1]; exact (unqF_u (by omega) (by omega) (by omega) (by omega) (by omega) (by omega)).symm, by simp only; omega, by simp only; omega, by simp only [ByteArray.size_append, ByteArray.size_extract]; omega⟩, by simp only; omega, Nat.le_refl _, ⟨rfl, rfl, rfl, rfl, rfl, trivial⟩, hcl, by simp [ltE, AV.lt], List.take_length⟩ | exact ⟨(i + 2, out ++ ⟨#[UInt8.ofNat b]⟩), σ.length, ⟨by rw [← hq1]; exact (unqF_e (by omega) (by omega) (by omega) hb).symm, by simp only; omega, by simp only; omega, by simp only [ByteArray.size_append, ByteArray.size_extract]; omega⟩, by simp only; omega, Nat.le_refl _, ⟨rfl, rfl, rfl, by rw [escK_all, hb]; rfl, rfl, trivial⟩, hcl, by simp [ltE, AV.lt], List.take_length⟩
    ·(try rw [h4]); (try simp only [decide_eq_true_eq, decide_eq_false_iff_not, Bool.not_eq_true', Bool.not_eq_false', Int.not_lt, Int.not_le, Bool.not_true, Bool.not_false, Int.toNat_natCast, tn1, tn2, tnn, bne_iff_ne, beq_iff_eq, beq_eq_false_iff_ne, ne_eq, Decidable.not_not] at h4)
     refine AWp_exit ?_
     refine zw6 ?_
     refine zrt ?_
     first | (exfalso; omega; done) | (rw [← hq1, unqF_q (by omega) (by omega)]; exact ResQ_40 rfl rfl rfl rfl hcl (by simp [AV.lt, AV.ltL]) (Ret_of (by dsimp only; rw [Int.toNat_of_nonneg (show 0 ≤ a by omega)]))) | (rw [← hq1, unqF_ctl (by omega) (by omega)]; exact ResQ_40 rfl rfl rfl rfl hcl (by simp [AV.lt, AV.ltL]) (Ret_of rfl)) | (rw [← hq1, unqF_bad (by omega) (by omega) (by omega) (by omega) (by omega)]; exact ResQ_40 rfl rfl rfl rfl hcl (by simp [AV.lt, AV.ltL]) (Ret_of rfl)) | (rw [← hq1, unqF_last (by omega) (by omega)]; exact ResQ_40 rfl rfl rfl rfl hcl (by simp [AV.lt, AV.ltL]) (Ret_of rfl)) | (rw [← hq1, unqF_hb (by omega) (by omega) (by omega) (by omega)]; exact ResQ_40 rfl rfl rfl rfl hcl (by simp [AV.lt, AV.ltL]) (Ret_of rfl)) | (rw [← hq1, unqF_sur (by omega) (by omega) (by omega) (by omega) (by omega) (by omega)]; exact ResQ_40 rfl rfl rfl rfl hcl (by simp [AV.lt, AV.ltL]) (Ret_of rfl)) | (rw [← hq1, unqF_eb (by omega) (by omega) (by omega) (by assumption)]; exact ResQ_40 rfl rfl rfl rfl hcl (by simp [AV.lt, AV.ltL]) (Ret_of rfl)) | (rw [← hq1, unqF_end (by omega)]; exact ResQ_40 rfl rfl rfl rfl hcl (by simp [AV.lt, AV.ltL]) (Ret_of rfl))
end Lg
set_option maxRecDepth 20000
set_option maxHeartbeats 4000000
namespace Lg
open Go Go.Proofs Go.RowKit
variable [GLay] 
theorem fail_r (s : ByteArray) (r : RS) (p : Nat) (σ : List AO) (hσ : σ[p]? = some (rbox s r)) (a b : Int) : ACalls Tryz.prog 35 [.ptr p 0, .int .i64 a, .int .i64 b] σ (Ret (.tup []) (σ.set p (rbox s (rfail r a b)))) := fail_c s r.a r.deep r.bad r.spot p σ hσ a b
theorem peek_r (s : ByteArray) (r : RS) (p : Nat) (σ : List AO) (hσ : σ[p]? = some (rbox s r)) : ACalls Tryz.prog 57 [.ptr p 0] σ (Ret (.int .i64 (pkv s r.a r.bad)) σ) := peek_c s r.a r.deep r.bad r.spot p σ hσ (by omega)
theorem blank_r (s : ByteArray) (r : RS) (p : Nat) (σ : List AO) (hσ : σ[p]? = some (rbox s r)) (hs : s.size ≤ 100000) (h : ROK s r) : ACalls Tryz.prog 56 [.ptr p 0] σ (Ret (.tup []) (σ.set p (rbox s (rblank s r)))) := blank_c s r.a r.deep r.bad r.spot p σ hσ (by omega) (by have := h.a; omega)
theorem open_r (s : ByteArray) (r : RS) (p : Nat) (σ : List AO) (hσ : σ[p]? = some (rbox s r)) (hs : s.size ≤ 100000) (h : ROK s r) : ACalls Tryz.prog 99 [.ptr p 0] σ (Ret (.tup []) (σ.set p (rbox s (ropen s r)))) := open_c s r.a r.deep r.bad r.spot p σ hσ (by omega) (by have := h.a; omega) h.d0 (by have := h.d1; have := h.a; omega)
theorem want_c (lit : ByteArray) (s : ByteArray) (r : RS) (p : Nat) (σ : List AO) (hσ : σ[p]? = some (rbox s r)) (hs : s.size ≤ 100000) (hl : lit.size ≤ 1000) (h : ROK s r) : ACalls Tryz.prog 61 [.ptr p 0, .str lit] σ (Ret (.tup []) (σ.set p (rbox s (rwant s lit r)))) := by
 have hp : p < σ.length := (List.getElem?_eq_some_iff.1 hσ).1
 refine ACalls_body Tryz.func61 rfl Tryz.ntmps61 (res0 Tryz.results61) (Nat.le_of_ble_eq_true rfl) (fun hcl hal => ?_)
 refine AWp_heap (set_same hσ) ?_
 refine zw1 ?_
 refine AWp_block ?_
 -- loop 0 LIVE 0:param 1:param 4:assign
 refine AWp_loop (ι := Nat × RS) (fun q => wantF s lit q.1 q.2 = rwant s lit r ∧ ROK s q.2 ∧ q.1 ≤ lit.size) (fun q => ⟨[], [(0, .ptr p 0), (1, .str lit), (4, .int .i64 (q.1 : Int))]⟩) (fun q => σ.set p (rbox s q.2)) (fun q => lit.size - q.1) ((0, r)) (⟨rfl, h, Nat.zero_le _⟩) ?_ rfl (fun q hq => ?_)
 ·exact ⟨rfl, rfl, rfl, rfl, trivial⟩
 obtain ⟨i, t⟩ := q
 obtain ⟨hq1, hq2, hq3⟩ := hq
 simp only at hq1 hq2 hq3 ⊢
 have ha := hq2.a
 refine AWp_seq ?_
 refine zu5 ?_
 refine zsp 9 rfl (fun h1 => ?_) fun h1 => ?_
 ·rw [h1]; (try simp only [decide_eq_true_eq, decide_eq_false_iff_not, Bool.not_eq_true', Bool.not_eq_false', Int.not_lt, Int.not_le, Bool.not_true, Bool.not_false, Int.toNat_natCast, tn1, tn2, tnn, bne_iff_ne, beq_iff_eq, beq_eq_false_iff_ne, ne_eq, Decidable.not_not] at h1)
  refine zv6 ?_
  refine AWp_cond rfl (fun h2 => ?_) (fun h2 => ?_)
  ·(try rw [h2]); (try simp only [decide_eq_true_eq, decide_eq_false_iff_not, Bool.not_eq_true', Bool.not_eq_false', Int.not_lt, Int.not_le, Bool.not_true, Bool.not_false, Int.toNat_natCast, tn1, tn2, tnn, bne_iff_ne, beq_iff_eq, beq_eq_false_iff_ne, ne_eq, Decidable.not_not] at h2)
   refine AWp_skip ?_
   refine AWp_seq ?_
   refine AWp_block ?_
   refine AWp_seq ?_
   refine AWp_seq ?_
   refine AWp_drawL #[0, 1, 0, 0, 12, 28, 63] Tryz.mixed (by decide +kernel) (by decide +kernel) ?_
   refine zd1 ?_
   refine yP rfl rfl (zc rfl (peek_r s t p _ (get_set hp))) (trivial) ?_
   refine zd3 ?_
   simp only [Int.toNat_natCast]
   have hbl := bat_lt lit i
   refine zd2 ?_
   refine RP.nil rfl ?_
   refine AWp_cond rfl (fun h3 => ?_) (fun h3 => ?_)
   ·(try rw [h3]); (try simp only [decide_eq_true_eq, decide_eq_false_iff_not, Bool.not_eq_true', Bool.not_eq_false', Int.not_lt, Int.not_le, Bool.not_true, Bool.not_false, Int.toNat_natCast, tn1, tn2, tnn, bne_iff_ne, beq_iff_eq, beq_eq_false_iff_ne, ne_eq, Decidable.not_not] at h3)
    refine AWp_regL ?_
    refine zg5 ?_
    refine zt rfl (zc rfl (callS (fail_r s t p _ (get_set hp) (t.a : Int) 1))) ?_
    have hra : (rfail t (t.a : Int) 1).a = t.a := rfl
    refine zon ?_
    refine AWp_regL ?_
    refine zv8 ?_
    refine AWp_regL ?_
    refine zv3 ?_
    have hstep : wantF s lit i t = wantF s lit (i + 1) (wstep s (bat lit i) t) := by rw [wantF.eq_1 s lit i, if_pos ⟨by omega, by omega⟩]
    have hw : wstep s (bat lit i) t = rinc (rfail t (t.a : Int) 1) := by unfold wstep; rw [if_neg (by omega)]
    refine ⟨(i + 1, wstep s (bat lit i) t), σ.length, ⟨by rw [← hq1, hstep], (wstep_to hq2 (by omega)).1.ok, by simp only; omega⟩, by simp only; omega, by simp, ⟨rfl, rfl, rfl, rfl, trivial⟩, closed_set (x := rbox s (rinc (rfail t (t.a : Int) 1))) hcl (by simp [AO.cells, AV.ltL, AV.lt]), ?_, take_set ?_⟩
    ·simp [ltE, AV.lt]; omega
    ·rw [hw]; rfl
   ·(try rw [h3]); (try simp only [decide_eq_true_eq, decide_eq_false_iff_not, Bool.not_eq_true', Bool.not_eq_false', Int.not_lt, Int.not_le, Bool.not_true, Bool.not_false, Int.toNat_natCast, tn1, tn2, tnn, bne_iff_ne, beq_iff_eq, beq_eq_false_iff_ne, ne_eq, Decidable.not_not] at h3)
    refine AWp_skip ?_
    refine AWp_regL ?_
    refine zv8 ?_
    refine AWp_regL ?_
    refine zv3 ?_
    have hstep : wantF s lit i t = wantF s lit (i + 1) (wstep s (bat lit i) t) := by rw [wantF.eq_1 s lit i, if_pos ⟨by omega, by omega⟩]
    have hw : wstep s (bat lit i) t = rinc t := by unfold wstep; rw [if_pos (by omega)]
    refine ⟨(i + 1, wstep s (bat lit i) t), σ.length, ⟨by rw [← hq1, hstep], (wstep_to hq2 (by omega)).1.ok, by simp only; omega⟩, by simp only; omega, by simp, ⟨rfl, rfl, rfl, rfl, trivial⟩, closed_set (x := rbox s (rinc t)) hcl (by simp [AO.cells, AV.ltL, AV.lt]), ?_, take_set ?_⟩
    ·simp [ltE, AV.lt]; omega
    ·rw [hw]; rfl
  ·(try rw [h2]); (try simp only [decide_eq_true_eq, decide_eq_false_iff_not, Bool.not_eq_true', Bool.not_eq_false', Int.not_lt, Int.not_le, Bool.not_true, Bool.not_false, Int.toNat_natCast, tn1, tn2, tnn, bne_iff_ne, beq_iff_eq, beq_eq_false_iff_ne, ne_eq, Decidable.not_not] at h2)
   refine AWp_exit ?_
   (try simp only [blockQ, thenQ])
   have hfin : t = rwant s lit r := by rw [← hq1, wantF, if_neg (by omega)]
   rw [← hfin]
   exact ResQ_N0 (x := rbox s t) hcl (by simp [AO.cells, AV.ltL, AV.lt]) ⟨rfl, rfl⟩
 ·rw [h1]; (try simp only [decide_eq_true_eq, decide_eq_false_iff_not, Bool.not_eq_true', Bool.not_eq_false', Int.not_lt, Int.not_le, Bool.not_true, Bool.not_false, Int.toNat_natCast, tn1, tn2, tnn, bne_iff_ne, beq_iff_eq, beq_eq_false_iff_ne, ne_eq, Decidable.not_not] at h1)
  refine zv6 ?_
  refine AWp_condF rfl ?_
  refine AWp_exit ?_
  (try simp only [blockQ, thenQ])
  have hfin : t = rwant s lit r := by rw [← hq1, wantF, if_neg (by omega)]
  rw [← hfin]
  exact ResQ_N0 (x := rbox s t) hcl (by simp [AO.cells, AV.ltL, AV.lt]) ⟨rfl, rfl⟩

theorem text_r (s : ByteArray) (r : RS) (p : Nat) (σ : List AO) (hσ : σ[p]? = some (rbox s r)) (hs : s.size ≤ 100000) (h : ROK s r) : ACalls Tryz.prog 60 [.ptr p 0] σ (Ret (.str (rtext s r).1) (σ.set p (rbox s (rtext s r).2))) := by
 have hp : p < σ.length := (List.getElem?_eq_some_iff.1 hσ).1
 have hu := rUnq_ok s r.a
 have ha := h.a
 refine ACalls_body Tryz.func60 rfl Tryz.ntmps60 (res1 Tryz.results60) (Nat.le_of_ble_eq_true rfl) (fun hcl hal => ?_)
 refine AWp_heap (set_same hσ) ?_
 refine zw1 ?_
 refine AWp_seq ?_
 refine zw5 ?_
 refine AWp_cond rfl (fun h1 => ?_) (fun h1 => ?_)
 ·(try rw [h1]); replace h1 := zcl h1
  refine zw1 ?_
  refine zrt ?_
  rw [show rtext s r = (e0, r) by unfold rtext; rw [if_neg h1]]
  exact ResQ_S0 rfl (x := rbox s r) hcl (by simp [AO.cells, AV.ltL, AV.lt]) trivial ⟨rfl, rfl⟩
 ·(try rw [h1]); replace h1 := zcl h1
  have ht : rtext s r = ((rUnq s r.a).s, ⟨r.a + (rUnq s r.a).n.toNat, r.deep, (rUnq s r.a).bad, if (rUnq s r.a).bad = 0 then r.spot else (rUnq s r.a).at_⟩) := by unfold rtext; rw [if_pos h1]
  have hc : ((r.a + (rUnq s r.a).n.toNat : Nat) : Int) = (r.a : Int) + (rUnq s r.a).n := by rcases hu with hu | hu <;> omega
  have hsz : (rUnq s r.a).n ≤ 200000 := by rcases hu with hu | hu <;> omega
  have hsz0 : 0 ≤ (rUnq s r.a).n := by rcases hu with hu | hu <;> omega
  refine AWp_skip ?_
  refine AWp_seq ?_
  refine AWp_drawL #[0, 1, 3, 7, 0, 16, 48, 112, 255, 511, 1023, 1023, 1023, 1023, 2047, 20479, 57343, 131071] Tryz.mixed (by decide +kernel) (by decide +kernel) ?_
  refine zd3 ?_
  refine zp1 ?_
  refine zd3 ?_
  refine zp1 ?_
  refine yP rfl rfl (zc rfl (unq_c s (r.a : Int) _ (by omega))) (trivial) ?_
  refine zd9 ?_
  refine RP.nil rfl ?_
  refine AWp_seq ?_
  refine zw2 ?_
  refine AWp_cond rfl (fun h2 => ?_) (fun h2 => ?_)
  ·(try rw [h2]); replace h2 := zcl h2
   have hf : rfail r (rUnq s r.a).at_ (rUnq s r.a).bad = ⟨r.a, r.deep, (rUnq s r.a).bad, (rUnq s r.a).at_⟩ := by simp [rfail, h1]
   refine AWp_regL ?_
   refine zg3 ?_
   refine zt rfl (zc rfl (callS (fail_r s r p _ (get_set hp) (rUnq s r.a).at_ (rUnq s r.a).bad))) ?_
   rw [hf]
   have hra : (RS.mk r.a r.deep (rUnq s r.a).bad (rUnq s r.a).at_).a = r.a := rfl
   refine zon ?_
   refine zsr ?_
   refine zg10 ?_
   refine zon ?_
   refine zw2 ?_
   refine zrt ?_
   rw [ht]; simp only [rbox, hc, if_neg h2]
   exact ResQ_S0 rfl (x := .box [.str s, .int .i64 ((r.a : Int) + (rUnq s r.a).n), .int .i64 r.deep, .int .i64 (rUnq s r.a).bad, .int .i64 (rUnq s r.a).at_]) hcl (by simp [AO.cells, AV.ltL, AV.lt]) trivial ⟨rfl, rfl⟩
  ·(try rw [h2]); replace h2 := zcl h2
   refine AWp_skip ?_
   refine zsr ?_
   refine zg10 ?_
   refine zon ?_
   refine zw2 ?_
   refine zrt ?_
   rw [ht]; simp only [rbox, hc, if_pos h2]
   have hb0 : (rUnq s r.a).bad = r.bad := by omega
   rw [hb0]
   exact ResQ_S0 rfl (x := .box [.str s, .int .i64 ((r.a : Int) + (rUnq s r.a).n), .int .i64 r.deep, .int .i64 r.bad, .int .i64 r.spot]) hcl (by simp [AO.cells, AV.ltL, AV.lt]) trivial ⟨rfl, rfl⟩
end Lg
set_option maxRecDepth 20000
set_option maxHeartbeats 4000000
namespace Lg
open Go Go.Proofs Go.RowKit
variable [GLay] 
theorem array_r (s : ByteArray) (n : Nat) (ih : ∀ (t : RS) (p : Nat) (τ : List AO), τ[p]? = some (rbox s t) → ROK s t → s.size + 1 < n + t.a → ACalls Tryz.prog 34 [.ptr p 0] τ (Ret (.agg (vcells (rval n s t).1)) (τ.set p (rbox s (rval n s t).2)))) (r : RS) (p : Nat) (σ : List AO) (hσ : σ[p]? = some (rbox s r)) (hs : s.size ≤ 100000) (h : ROK s r) (hb : r.bad = 0) (ha : r.a < s.size) (hn : s.size + 1 < n + r.a + 1) : ACalls Tryz.prog 59 [.ptr p 0] σ (Ret (.agg (vcells (rarr (rval n s) s r).1)) (σ.set p (rbox s (rarr (rval n s) s r).2))) := by
 have hp : p < σ.length := (List.getElem?_eq_some_iff.1 hσ).1
 have ho := ropen_to h hb ha
 have hd0 := h.d0
 have hd1 := h.d1
 refine ACalls_bodyC Tryz.func59 rfl Tryz.ntmps59 (by rw [Tryz.results59]; exact (.ck Tryz.isAgg28 Tryz.sizeOf28 .nil)) (Nat.le_of_ble_eq_true rfl) (fun hcl hal => ?_)
 refine AWp_heap (set_same hσ) ?_
 refine zw1 ?_
 refine zw3 ?_
 refine AWp_seq ?_
 refine AWp_boxLeS 1 (bs' := [.int .i64 4, .bool false, .bool false, .str e0, .int .i64 0, .str e0, .nils, .sl false 9 (mcells [])]) rfl ⟨AVle.refl _, AVle.refl _, AVle.refl _, AVle.refl _, AVle.refl _, AVle.refl _, AVle.refl _, nilM, trivial⟩ ?_
 refine AWp_ghostInS 1 6 8 2 rfl rfl rfl ?_
 refine AWp_regL ?_
 refine zg1 ?_
 refine zt rfl (zc rfl (callSA hp (open_r s r p _ (get_setA hp) hs h))) ?_
 refine zon ?_
 refine AWp_joinB (ι := List JV × RS × Nat) (fun z => rarrF (rval n s) s (s.size + 2) [] (ropen s r) = (z.1, z.2.1) ∧ ROK s z.2.1 ∧ r.a + 1 ≤ z.2.1.a) (fun z => ⟨[], [(0, .ptr p 0), (2, .ptr (σ.length + 0) 0), (3, .ptr (σ.length + 1) 0)]⟩) (fun z => σ.set p (rbox s z.2.1) ++ [.box [.int .i64 0, .bool false, .bool false, .str e0, .int .i64 0, .str e0, .nils, .nils], .box [.int .i64 4, .bool false, .bool false, .str e0, .int .i64 0, .str e0, .arr (σ.length + 2) z.2.2 8 0 z.1.length, .sl false 9 (mcells [])], .arr 8 z.2.2 (lcells z.1).flatten]) ?_ (fun z hz => ?_)
 ·skip
  -- loop 0 LIVE 0:param 2:alloc 3:alloc
  refine AWp_loop (ι := Nat × List JV × RS × Nat) (fun q => rarrF (rval n s) s q.1 q.2.1 q.2.2.1 = rarrF (rval n s) s (s.size + 2) [] (ropen s r) ∧ ROK s q.2.2.1 ∧ lsize q.2.1 ≤ q.2.2.1.a ∧ s.size + 2 ≤ q.1 + q.2.2.1.a ∧ r.a + 1 ≤ q.2.2.1.a) (fun q => ⟨[], [(0, .ptr p 0), (2, .ptr (σ.length + 0) 0), (3, .ptr (σ.length + 1) 0)]⟩) (fun q => σ.set p (rbox s q.2.2.1) ++ [.box [.int .i64 0, .bool false, .bool false, .str e0, .int .i64 0, .str e0, .nils, .nils], .box [.int .i64 4, .bool false, .bool false, .str e0, .int .i64 0, .str e0, .arr (σ.length + 2) q.2.2.2 8 0 q.2.1.length, .sl false 9 (mcells [])], .arr 8 q.2.2.2 (lcells q.2.1).flatten]) (fun q => q.1) ((s.size + 2, [], ropen s r, 0)) (⟨rfl, ho.1.ok, by simp only [lsize]; omega, by simp only; omega, ho.2.1⟩) ?_ rfl (fun q hq => ?_)
  ·exact ⟨rfl, rfl, rfl, rfl, trivial⟩
  obtain ⟨k, l, t, g⟩ := q
  obtain ⟨hq1, hq2, hq3, hq4, hq5⟩ := hq
  simp only at hq1 hq2 hq3 hq4 hq5 ⊢
  have hta := hq2.a
  have hll := llen_le l
  have hlc := lcells_length l
  obtain ⟨k, rfl⟩ : ∃ k', k = k' + 1 := ⟨k - 1, by omega⟩
  refine AWp_seq ?_
  refine zu6 ?_
  refine zsp 12 rfl (fun h1 => ?_) fun h1 => ?_
  ·rw [h1]; (try simp only [decide_eq_true_eq, decide_eq_false_iff_not, Bool.not_eq_true', Bool.not_eq_false', Int.not_lt, Int.not_le, Bool.not_true, Bool.not_false, Int.toNat_natCast, tn1, tn2, tnn, bne_iff_ne, beq_iff_eq, beq_eq_false_iff_ne, ne_eq, Decidable.not_not] at h1)
   refine zg1 ?_
   refine ztG rfl rfl (zc rfl (peek_r s t p _ (get_setA hp))) ?_
   refine zg2 ?_
   refine zsp 16 rfl (fun h2 => ?_) fun h2 => ?_
   ·rw [h2]; (try simp only [decide_eq_true_eq, decide_eq_false_iff_not, Bool.not_eq_true', Bool.not_eq_false', Int.not_lt, Int.not_le, Bool.not_true, Bool.not_false, Int.toNat_natCast, tn1, tn2, tnn, bne_iff_ne, beq_iff_eq, beq_eq_false_iff_ne, ne_eq, Decidable.not_not] at h2)
    refine zv6 ?_
    refine AWp_condT rfl ?_
    refine AWp_skip ?_
    refine AWp_block ?_
    refine AWp_seq ?_
    refine AWp_drawL #[0, 1, 0, 4, 12, 31, 63, 127] Tryz.mixed (by decide +kernel) (by decide +kernel) ?_
    refine zd1 ?_
    refine zp1 ?_
    refine zd1 ?_
    refine yE rfl rfl (zc rfl (callSA hp (ih t p _ (get_setA hp) hq2 (by omega)))) (⟨.inr (op_load1 rfl Tryz.isAgg25 (ldv_ownS rfl rfl)), trivial⟩) (trivial) ?_
    have hv := rval_ok hs n t hq2
    have hva := hv.fwd.a
    have hvk := hv.fwd.ok
    have hua := hv.fwd.ok.a
    have hvs := hv.size
    clear hv
    generalize hx1 : (rval n s t).1 = v at hvs ⊢
    generalize hx2 : (rval n s t).2 = u at hva hvk hua hvs ⊢
    have hl5 := lsize_snoc l v
    rw [vcells_eq v]
    refine yA rfl rfl (fun _ => op_buildSlice [[_, _, _, _, _, _, _, _]] rfl Tryz.underlying25 Tryz.sizeOf28 Tryz.zeroValue28 rfl (by decide) (by decide) rfl rfl rfl rfl rfl) ?_
    refine yE rfl rfl (op_appendArrT len_set 2 (sz := 8) (m := 1) (len := l.length) (cs := _) rfl (.inr ⟨_, rfl⟩) Tryz.underlying25 Tryz.underlying25 Tryz.type28 rfl rfl rfl (by decide) rfl rfl (lflat_len l).symm rfl rfl rfl (by show (l.length + 1) * 112 ≤ _; omega) (by omega) rfl) (⟨.inl rfl, trivial⟩) (⟨rfl, trivial⟩) ?_
    refine zd1 ?_
    refine yEN rfl rfl rfl (op_storeOS (r := [.int .i64 4, .bool false, .bool false, .str e0, .int .i64 0, .str e0, .arr (σ.length + 2) (g + 1) 8 0 (l.length + 1), .sl false 9 (mcells [])]) rfl Tryz.sizeOf25 rfl rfl rfl rfl rfl (by decide)) (⟨.inl rfl, trivial⟩) (⟨rfl, ⟨rfl, trivial⟩⟩) ?_
    refine RP.nil rfl ?_
    refine AWp_seq ?_
    refine zu1 ?_
    refine zt rfl (zc rfl (peek_r s u p _ (get_setA hp))) ?_
    refine zv1 ?_
    refine AWp_cond rfl (fun h3 => ?_) (fun h3 => ?_)
    ·(try rw [h3]); (try simp only [decide_eq_true_eq, decide_eq_false_iff_not, Bool.not_eq_true', Bool.not_eq_false', Int.not_lt, Int.not_le, Bool.not_true, Bool.not_false, Int.toNat_natCast, tn1, tn2, tnn, bne_iff_ne, beq_iff_eq, beq_eq_false_iff_ne, ne_eq, Decidable.not_not] at h3)
     refine AWp_exit ?_
     show ∃ z : List JV × RS × Nat, _ ∧ _ ∧ _
     first | exact ⟨(l, t, g), ⟨by rw [← hq1, rarrF, if_neg (by omega)], hq2, hq5⟩, ⟨rfl, rfl, rfl, rfl, trivial⟩, rfl⟩ | exact ⟨(l ++ [v], u, g + 1), ⟨by rw [← hq1, rarrF, if_pos ⟨by omega, by omega⟩, hx1, hx2, if_neg (by omega)], hvk, by simp only; omega⟩, ⟨rfl, rfl, rfl, rfl, trivial⟩, by rw [lcells_snoc, List.length_append, vcells_eq v]; rfl⟩
    ·(try rw [h3]); (try simp only [decide_eq_true_eq, decide_eq_false_iff_not, Bool.not_eq_true', Bool.not_eq_false', Int.not_lt, Int.not_le, Bool.not_true, Bool.not_false, Int.toNat_natCast, tn1, tn2, tnn, bne_iff_ne, beq_iff_eq, beq_eq_false_iff_ne, ne_eq, Decidable.not_not] at h3)
     refine AWp_skip ?_
     refine AWp_regL ?_
     refine zv8 ?_
     have hstep : rarrF (rval n s) s (k + 1) l t = rarrF (rval n s) s k (l ++ [v]) (rinc u) := by rw [rarrF, if_pos ⟨by omega, by omega⟩, hx1, hx2, if_pos (by omega)]
     refine ⟨(k, l ++ [v], rinc u, g + 1), σ.length + 3, ⟨by rw [← hq1, hstep], (rinc_to hvk (by omega)).ok, by simp only [rinc]; omega, by simp only [rinc]; omega, by simp only [rinc]; omega⟩, by simp only; omega, by simp, ⟨rfl, rfl, rfl, rfl, trivial⟩, closed_ownS (x := rbox s (rinc u)) 3 hcl (by simp [AO.cells, AV.ltL, AV.lt]) ?_, ?_, ?_⟩
     ·simp [ownLt, AO.cells, AV.ltL, AV.lt, ofConst1, ltL_append, lflat_lt]
     ·simp [ltE, AV.lt]; omega
     ·rw [lcells_snoc, List.length_append, vcells_eq v]; exact take_ownS 3
   ·rw [h2]; (try simp only [decide_eq_true_eq, decide_eq_false_iff_not, Bool.not_eq_true', Bool.not_eq_false', Int.not_lt, Int.not_le, Bool.not_true, Bool.not_false, Int.toNat_natCast, tn1, tn2, tnn, bne_iff_ne, beq_iff_eq, beq_eq_false_iff_ne, ne_eq, Decidable.not_not] at h2)
    refine zg2 ?_
    refine ztG rfl rfl (op_lenS rfl rfl Tryz.underlying25 rfl rfl ⟨8, _, get_ownS 2⟩) ?_
    refine zv3 ?_
    refine AWp_cond rfl (fun h4 => ?_) (fun h4 => ?_)
    ·(try rw [h4]); (try simp only [decide_eq_true_eq, decide_eq_false_iff_not, Bool.not_eq_true', Bool.not_eq_false', Int.not_lt, Int.not_le, Bool.not_true, Bool.not_false, Int.toNat_natCast, tn1, tn2, tnn, bne_iff_ne, beq_iff_eq, beq_eq_false_iff_ne, ne_eq, Decidable.not_not] at h4)
     refine AWp_skip ?_
     refine AWp_block ?_
     refine AWp_seq ?_
     refine AWp_drawL #[0, 1, 0, 4, 12, 31, 63, 127] Tryz.mixed (by decide +kernel) (by decide +kernel) ?_
     refine zd1 ?_
     refine zp1 ?_
     refine zd1 ?_
     refine yE rfl rfl (zc rfl (callSA hp (ih t p _ (get_setA hp) hq2 (by omega)))) (⟨.inr (op_load1 rfl Tryz.isAgg25 (ldv_ownS rfl rfl)), trivial⟩) (trivial) ?_
     have hv := rval_ok hs n t hq2
     have hva := hv.fwd.a
     have hvk := hv.fwd.ok
     have hua := hv.fwd.ok.a
     have hvs := hv.size
     clear hv
     generalize hx1 : (rval n s t).1 = v at hvs ⊢
     generalize hx2 : (rval n s t).2 = u at hva hvk hua hvs ⊢
     have hl5 := lsize_snoc l v
     rw [vcells_eq v]
     refine yA rfl rfl (fun _ => op_buildSlice [[_, _, _, _, _, _, _, _]] rfl Tryz.underlying25 Tryz.sizeOf28 Tryz.zeroValue28 rfl (by decide) (by decide) rfl rfl rfl rfl rfl) ?_
     refine yE rfl rfl (op_appendArrT len_set 2 (sz := 8) (m := 1) (len := l.length) (cs := _) rfl (.inr ⟨_, rfl⟩) Tryz.underlying25 Tryz.underlying25 Tryz.type28 rfl rfl rfl (by decide) rfl rfl (lflat_len l).symm rfl rfl rfl (by show (l.length + 1) * 112 ≤ _; omega) (by omega) rfl) (⟨.inl rfl, trivial⟩) (⟨rfl, trivial⟩) ?_
     refine zd1 ?_
     refine yEN rfl rfl rfl (op_storeOS (r := [.int .i64 4, .bool false, .bool false, .str e0, .int .i64 0, .str e0, .arr (σ.length + 2) (g + 1) 8 0 (l.length + 1), .sl false 9 (mcells [])]) rfl Tryz.sizeOf25 rfl rfl rfl rfl rfl (by decide)) (⟨.inl rfl, trivial⟩) (⟨rfl, ⟨rfl, trivial⟩⟩) ?_
     refine RP.nil rfl ?_
     refine AWp_seq ?_
     refine zu1 ?_
     refine zt rfl (zc rfl (peek_r s u p _ (get_setA hp))) ?_
     refine zv1 ?_
     refine AWp_cond rfl (fun h5 => ?_) (fun h5 => ?_)
     ·(try rw [h5]); (try simp only [decide_eq_true_eq, decide_eq_false_iff_not, Bool.not_eq_true', Bool.not_eq_false', Int.not_lt, Int.not_le, Bool.not_true, Bool.not_false, Int.toNat_natCast, tn1, tn2, tnn, bne_iff_ne, beq_iff_eq, beq_eq_false_iff_ne, ne_eq, Decidable.not_not] at h5)
      refine AWp_exit ?_
      show ∃ z : List JV × RS × Nat, _ ∧ _ ∧ _
      first | exact ⟨(l, t, g), ⟨by rw [← hq1, rarrF, if_neg (by omega)], hq2, hq5⟩, ⟨rfl, rfl, rfl, rfl, trivial⟩, rfl⟩ | exact ⟨(l ++ [v], u, g + 1), ⟨by rw [← hq1, rarrF, if_pos ⟨by omega, by omega⟩, hx1, hx2, if_neg (by omega)], hvk, by simp only; omega⟩, ⟨rfl, rfl, rfl, rfl, trivial⟩, by rw [lcells_snoc, List.length_append, vcells_eq v]; rfl⟩
     ·(try rw [h5]); (try simp only [decide_eq_true_eq, decide_eq_false_iff_not, Bool.not_eq_true', Bool.not_eq_false', Int.not_lt, Int.not_le, Bool.not_true, Bool.not_false, Int.toNat_natCast, tn1, tn2, tnn, bne_iff_ne, beq_iff_eq, beq_eq_false_iff_ne, ne_eq, Decidable.not_not] at h5)
      refine AWp_skip ?_
      refine AWp_regL ?_
      refine zv8 ?_
      have hstep : rarrF (rval n s) s (k + 1) l t = rarrF (rval n s) s k (l ++ [v]) (rinc u) := by rw [rarrF, if_pos ⟨by omega, by omega⟩, hx1, hx2, if_pos (by omega)]
      refine ⟨(k, l ++ [v], rinc u, g + 1), σ.length + 3, ⟨by rw [← hq1, hstep], (rinc_to hvk (by omega)).ok, by simp only [rinc]; omega, by simp only [rinc]; omega, by simp only [rinc]; omega⟩, by simp only; omega, by simp, ⟨rfl, rfl, rfl, rfl, trivial⟩, closed_ownS (x := rbox s (rinc u)) 3 hcl (by simp [AO.cells, AV.ltL, AV.lt]) ?_, ?_, ?_⟩
      ·simp [ownLt, AO.cells, AV.ltL, AV.lt, ofConst1, ltL_append, lflat_lt]
      ·simp [ltE, AV.lt]; omega
      ·rw [lcells_snoc, List.length_append, vcells_eq v]; exact take_ownS 3
    ·(try rw [h4]); (try simp only [decide_eq_true_eq, decide_eq_false_iff_not, Bool.not_eq_true', Bool.not_eq_false', Int.not_lt, Int.not_le, Bool.not_true, Bool.not_false, Int.toNat_natCast, tn1, tn2, tnn, bne_iff_ne, beq_iff_eq, beq_eq_false_iff_ne, ne_eq, Decidable.not_not] at h4)
     refine AWp_exit ?_
     show ∃ z : List JV × RS × Nat, _ ∧ _ ∧ _
     first | exact ⟨(l, t, g), ⟨by rw [← hq1, rarrF, if_neg (by omega)], hq2, hq5⟩, ⟨rfl, rfl, rfl, rfl, trivial⟩, rfl⟩ | exact ⟨(l ++ [v], u, g + 1), ⟨by rw [← hq1, rarrF, if_pos ⟨by omega, by omega⟩, hx1, hx2, if_neg (by omega)], hvk, by simp only; omega⟩, ⟨rfl, rfl, rfl, rfl, trivial⟩, by rw [lcells_snoc, List.length_append, vcells_eq v]; rfl⟩
  ·rw [h1]; (try simp only [decide_eq_true_eq, decide_eq_false_iff_not, Bool.not_eq_true', Bool.not_eq_false', Int.not_lt, Int.not_le, Bool.not_true, Bool.not_false, Int.toNat_natCast, tn1, tn2, tnn, bne_iff_ne, beq_iff_eq, beq_eq_false_iff_ne, ne_eq, Decidable.not_not] at h1)
   refine zg10 ?_
   refine zon ?_
   refine AWp_condF rfl ?_
   refine AWp_exit ?_
   show ∃ z : List JV × RS × Nat, _ ∧ _ ∧ _
   first | exact ⟨(l, t, g), ⟨by rw [← hq1, rarrF, if_neg (by omega)], hq2, hq5⟩, ⟨rfl, rfl, rfl, rfl, trivial⟩, rfl⟩ | exact ⟨(l ++ [v], u, g + 1), ⟨by rw [← hq1, rarrF, if_pos ⟨by omega, by omega⟩, hx1, hx2, if_neg (by omega)], hvk, by simp only; omega⟩, ⟨rfl, rfl, rfl, rfl, trivial⟩, by rw [lcells_snoc, List.length_append, vcells_eq v]; rfl⟩
 ·skip
  obtain ⟨l, t, g⟩ := z
  obtain ⟨hz1, hz2, hz3⟩ := hz
  simp only at hz1 hz2 hz3 ⊢
  have hres : rarr (rval n s) s r = (.mk 4 false {} e0 l [], rdec (rwant s rb1 t)) := by unfold rarr; rw [hz1]
  refine zu1 ?_
  refine zt rfl (zc rfl (callSA hp (want_c rb1 s t p _ (get_setA hp) hs (by decide) hz2))) ?_
  refine zon ?_
  refine AWp_seq ?_
  have hw := rwant_to (s := s) (lit := rb1) hz2
  have hw1 := hw.1.ok.d0
  have hw2 := hw.1.ok.d1
  have hw3 := hw.1.ok.a
  refine AWp_regL ?_
  refine zv8 ?_
  refine AWp_seq ?_
  refine AWp_freezeInS 1 6 2 g 8 0 l.length rfl rfl rfl (lcells l) (by rw [Nat.zero_mul, List.drop_zero, ← lflat_len, List.take_length]) (lrow_len l) (lcells_length l) (by decide) (by rw [lflat_len]; omega) ?_
  refine AWp_regL ?_
  refine zv2 ?_
  refine zrt ?_
  rw [hres, vcells_eq]
  exact RQ_retS (rkvs_cons (rkv_ckS rfl rfl rfl) rfl) (x := rbox s (rdec (rwant s rb1 t))) hcl (by simp [AO.cells, AV.ltL, AV.lt]) (by simp [rks, AV.lt, AV.ltL]) ⟨rfl, rfl⟩
end Lg
set_option maxRecDepth 20000
set_option maxHeartbeats 4000000
namespace Lg
open Go Go.Proofs Go.RowKit
variable [GLay] 
theorem rfind_c (v : JV) (key : ByteArray) (σ : List AO) (hb : v.m.length ≤ 1000000) : ACalls Tryz.prog 43 [.agg (vcells v), .str key] σ (FindR v key σ) := by
 refine ACalls_bodyC Tryz.func43 rfl Tryz.ntmps43 (by rw [Tryz.results43]; exact (.ck Tryz.isAgg28 Tryz.sizeOf28 (.t .nil))) (Nat.le_of_ble_eq_true rfl) (fun hcl hal => ?_)
 have hmc := mcells_length v.m
 rw [vcells_eq v]
 refine zw3 ?_
 refine AWp_seq ?_
 refine zw1 ?_
 refine AWp_block ?_
 -- loop 0 LIVE 1:param 2:box 4:alloc 5:assign 6:assign
 refine AWp_loop (ι := Nat) (fun i => i ≤ v.m.length ∧ ∀ (j : Nat) q, j < i → v.m[j]? = some q → ¬ (v.kind = 5 ∧ q.1 = key)) (fun i => ⟨[], [(1, .str key), (2, .ptr (σ.length + 0) 0), (4, .ptr (σ.length + 1) 0), (6, .int .i64 (i : Int))]⟩) (fun i => σ ++ [_, _]) (fun i => v.m.length - i) (0) (⟨Nat.zero_le _, fun j q hj => absurd hj (by omega)⟩) ?_ rfl (fun i hi => ?_)
 ·exact ⟨rfl, rfl, rfl, rfl, rfl, trivial⟩
 obtain ⟨hi1, hi2⟩ := hi
 refine AWp_seq ?_
 refine zw5 ?_
 refine AWp_cond rfl (fun h1 => ?_) (fun h1 => ?_)
 ·(try rw [h1]); replace h1 := zcl h1
  obtain ⟨q, hq⟩ : ∃ q, v.m[i]? = some q := ⟨_, List.getElem?_eq_getElem (show i < v.m.length by omega)⟩
  refine AWp_skip ?_
  refine AWp_seq ?_
  refine AWp_block ?_
  refine zu4 ?_
  refine zsp 17 rfl (fun h2 => ?_) fun h2 => ?_
  ·rw [h2]; replace h2 := zcl h2
   refine zv9 ?_
   refine AWp_cond rfl (fun h3 => ?_) (fun h3 => ?_)
   ·(try rw [h3]); replace h3 := zcl h3
    refine zu5 ?_
    rw [vcells_eq q.2]
    refine zv3 ?_
    refine zrt ?_
    have hf : jfind v key = some q.2 := by rw [jfind, if_pos h2, find_some (fun j y hj hy => by have := hi2 j y hj hy; simpa [h2] using this) hq (by simpa using h3)]; rfl
    refine RQ_ret (rkvs_cons (rkv_ck rfl rfl rfl) (rkvs_cons (rkv_t rfl) rfl)) hcl ?_ ⟨rfl, _, _, rfl, ?_, ?_⟩
    ·simp [rks, AV.lt, AV.ltL, ofConst1]
    ·rw [hf]; show AVleL _ (vcells q.2); rw [vcells_eq]; exact AVleL.refl _
    ·rw [hf]; rfl
   ·(try rw [h3]); replace h3 := zcl h3
    refine AWp_skip ?_
    refine AWp_regL ?_
    refine zv3 ?_
    refine ⟨i + 1, σ.length + 2, ⟨by omega, fun j y hj hy => ?_⟩, by omega, by simp, ⟨rfl, rfl, rfl, rfl, rfl, trivial⟩, closed_own 2 hcl ?_, ?_, take_own 2⟩
    ·by_cases e : j = i
     ·subst e; rw [hq] at hy; cases hy; exact fun h => h3 h.2
     ·exact hi2 j y (by omega) hy
    ·simp [ownLt, AO.cells, AV.ltL, AV.lt, ofConst1]
    ·simp [ltE, AV.lt]
  ·rw [h2]; replace h2 := zcl h2
   refine zv9 ?_
   refine AWp_condF rfl ?_
   refine AWp_skip ?_
   refine AWp_regL ?_
   refine zv3 ?_
   refine ⟨i + 1, σ.length + 2, ⟨by omega, fun j y hj hy => ?_⟩, by omega, by simp, ⟨rfl, rfl, rfl, rfl, rfl, trivial⟩, closed_own 2 hcl ?_, ?_, take_own 2⟩
   ·by_cases e : j = i
    ·subst e; rw [hq] at hy; cases hy; exact fun h => h2 h.1
    ·exact hi2 j y (by omega) hy
   ·simp [ownLt, AO.cells, AV.ltL, AV.lt, ofConst1]
   ·simp [ltE, AV.lt]
 ·(try rw [h1]); replace h1 := zcl h1
  refine AWp_exit ?_
  refine zw3 ?_
  refine zrt ?_
  have hf : jfind v key = none := by
   by_cases hk : v.kind = 5
   ·rw [jfind, if_pos hk, find_none (fun j y hy => by have := hi2 j y (by have := (List.getElem?_eq_some_iff.1 hy).1; omega) hy; simpa [hk] using this)]; rfl
   ·simp [jfind, hk]
  refine RQ_ret (rkvs_cons (rkv_ck rfl rfl rfl) (rkvs_cons (rkv_t rfl) rfl)) hcl ?_ ⟨rfl, _, _, rfl, ?_, ?_⟩
  ·simp [rks, AV.lt, AV.ltL, ofConst1]
  ·rw [hf]; exact vle8 nilL nilM
  ·rw [hf]; rfl
end Lg
set_option maxRecDepth 20000
set_option maxHeartbeats 4000000
namespace Lg
open Go Go.Proofs Go.RowKit
variable [GLay] 
theorem object_r (s : ByteArray) (n : Nat) (ih : ∀ (t : RS) (p : Nat) (τ : List AO), τ[p]? = some (rbox s t) → ROK s t → s.size + 1 < n + t.a → ACalls Tryz.prog 34 [.ptr p 0] τ (Ret (.agg (vcells (rval n s t).1)) (τ.set p (rbox s (rval n s t).2)))) (r : RS) (p : Nat) (σ : List AO) (hσ : σ[p]? = some (rbox s r)) (hs : s.size ≤ 100000) (h : ROK s r) (hb : r.bad = 0) (ha : r.a < s.size) (hn : s.size + 1 < n + r.a + 1) : ACalls Tryz.prog 58 [.ptr p 0] σ (Ret (.agg (vcells (robj (rval n s) s r).1)) (σ.set p (rbox s (robj (rval n s) s r).2))) := by
 have hp : p < σ.length := (List.getElem?_eq_some_iff.1 hσ).1
 have ho := ropen_to h hb ha
 have hd0 := h.d0
 have hd1 := h.d1
 refine ACalls_bodyC Tryz.func58 rfl Tryz.ntmps58 (by rw [Tryz.results58]; exact (.ck Tryz.isAgg28 Tryz.sizeOf28 .nil)) (Nat.le_of_ble_eq_true rfl) (fun hcl hal => ?_)
 refine AWp_heap (set_same hσ) ?_
 refine zw1 ?_
 refine zw3 ?_
 refine AWp_seq ?_
 refine AWp_boxLeS 1 (bs' := [.int .i64 5, .bool false, .bool false, .str e0, .int .i64 0, .str e0, .sl false 8 (lcells []), .sl false 9 (mcells [])]) rfl ⟨AVle.refl _, AVle.refl _, AVle.refl _, AVle.refl _, AVle.refl _, AVle.refl _, nilL, nilM, trivial⟩ ?_
 refine AWp_regL ?_
 refine zg1 ?_
 refine zt rfl (zc rfl (callSA hp (open_r s r p _ (get_setA hp) hs h))) ?_
 refine zon ?_
 refine AWp_joinB (ι := List (ByteArray × JV) × RS × List AO) (fun z => robjF (rval n s) s (s.size + 2) [] (ropen s r) = (z.1, z.2.1) ∧ ROK s z.2.1 ∧ r.a + 1 ≤ z.2.1.a) (fun z => ⟨[], [(0, .ptr p 0), (2, .ptr (σ.length + 0) 0), (3, .ptr (σ.length + 1) 0)]⟩) (fun z => σ.set p (rbox s z.2.1) ++ ([.box [.int .i64 0, .bool false, .bool false, .str e0, .int .i64 0, .str e0, .nils, .nils], .box [.int .i64 5, .bool false, .bool false, .str e0, .int .i64 0, .str e0, .sl false 8 (lcells []), .sl false 9 (mcells z.1)]] ++ z.2.2)) ?_ (fun z hz => ?_)
 ·skip
  -- loop 0 LIVE 0:param 2:alloc 3:alloc
  refine AWp_loop (ι := Nat × List (ByteArray × JV) × RS) (fun q => robjF (rval n s) s q.1 q.2.1 q.2.2 = robjF (rval n s) s (s.size + 2) [] (ropen s r) ∧ ROK s q.2.2 ∧ msize q.2.1 ≤ q.2.2.a ∧ s.size + 2 ≤ q.1 + q.2.2.a ∧ r.a + 1 ≤ q.2.2.a) (fun q => ⟨[], [(0, .ptr p 0), (2, .ptr (σ.length + 0) 0), (3, .ptr (σ.length + 1) 0)]⟩) (fun q => σ.set p (rbox s q.2.2) ++ [.box [.int .i64 0, .bool false, .bool false, .str e0, .int .i64 0, .str e0, .nils, .nils], .box [.int .i64 5, .bool false, .bool false, .str e0, .int .i64 0, .str e0, .sl false 8 (lcells []), .sl false 9 (mcells q.2.1)]]) (fun q => q.1) ((s.size + 2, [], ropen s r)) (⟨rfl, ho.1.ok, by simp only [msize]; omega, by simp only; omega, ho.2.1⟩) ?_ rfl (fun q hq => ?_)
  ·exact ⟨rfl, rfl, rfl, rfl, trivial⟩
  obtain ⟨k, m, t⟩ := q
  obtain ⟨hq1, hq2, hq3, hq4, hq5⟩ := hq
  simp only at hq1 hq2 hq3 hq4 hq5 ⊢
  have hta := hq2.a
  have hll := mlen_le m
  have hlc := mcells_length m
  obtain ⟨k, rfl⟩ : ∃ k', k = k' + 1 := ⟨k - 1, by omega⟩
  refine AWp_join (ι := Unit) (fun b => t.bad = 0 ∧ (¬ pkv s t.a t.bad = 125 ∨ 0 < m.length)) (fun b => ⟨[], [(0, .ptr p 0), (2, .ptr (σ.length + 0) 0), (3, .ptr (σ.length + 1) 0)]⟩) (fun b => σ.set p (rbox s t) ++ [.box [.int .i64 0, .bool false, .bool false, .str e0, .int .i64 0, .str e0, .nils, .nils], .box [.int .i64 5, .bool false, .bool false, .str e0, .int .i64 0, .str e0, .sl false 8 (lcells []), .sl false 9 (mcells m)]]) ?_ (fun b hj => ?_)
  ·skip
   refine zu6 ?_
   refine zsp 19 rfl (fun h1 => ?_) fun h1 => ?_
   ·rw [h1]; (try simp only [decide_eq_true_eq, decide_eq_false_iff_not, Bool.not_eq_true', Bool.not_eq_false', Int.not_lt, Int.not_le, Bool.not_true, Bool.not_false, Int.toNat_natCast, tn1, tn2, tnn, bne_iff_ne, beq_iff_eq, beq_eq_false_iff_ne, ne_eq, Decidable.not_not] at h1)
    refine zg1 ?_
    refine ztG rfl rfl (zc rfl (peek_r s t p _ (get_setA hp))) ?_
    refine zg2 ?_
    refine zsp 23 rfl (fun h2 => ?_) fun h2 => ?_
    ·rw [h2]; (try simp only [decide_eq_true_eq, decide_eq_false_iff_not, Bool.not_eq_true', Bool.not_eq_false', Int.not_lt, Int.not_le, Bool.not_true, Bool.not_false, Int.toNat_natCast, tn1, tn2, tnn, bne_iff_ne, beq_iff_eq, beq_eq_false_iff_ne, ne_eq, Decidable.not_not] at h2)
     refine zv6 ?_
     refine AWp_condT rfl ?_
     refine AWp_skip ?_
     exact ⟨(), ⟨by omega, by omega⟩, ⟨rfl, rfl, rfl, rfl, trivial⟩, rfl⟩
    ·rw [h2]; (try simp only [decide_eq_true_eq, decide_eq_false_iff_not, Bool.not_eq_true', Bool.not_eq_false', Int.not_lt, Int.not_le, Bool.not_true, Bool.not_false, Int.toNat_natCast, tn1, tn2, tnn, bne_iff_ne, beq_iff_eq, beq_eq_false_iff_ne, ne_eq, Decidable.not_not] at h2)
     refine zv6 ?_
     refine AWp_cond rfl (fun h3 => ?_) (fun h3 => ?_)
     ·(try rw [h3]); (try simp only [decide_eq_true_eq, decide_eq_false_iff_not, Bool.not_eq_true', Bool.not_eq_false', Int.not_lt, Int.not_le, Bool.not_true, Bool.not_false, Int.toNat_natCast, tn1, tn2, tnn, bne_iff_ne, beq_iff_eq, beq_eq_false_iff_ne, ne_eq, Decidable.not_not] at h3)
      refine AWp_skip ?_
      exact ⟨(), ⟨by omega, by omega⟩, ⟨rfl, rfl, rfl, rfl, trivial⟩, rfl⟩
     ·(try rw [h3]); (try simp only [decide_eq_true_eq, decide_eq_false_iff_not, Bool.not_eq_true', Bool.not_eq_false', Int.not_lt, Int.not_le, Bool.not_true, Bool.not_false, Int.toNat_natCast, tn1, tn2, tnn, bne_iff_ne, beq_iff_eq, beq_eq_false_iff_ne, ne_eq, Decidable.not_not] at h3)
      refine AWp_exit ?_
      show ∃ z : List (ByteArray × JV) × RS × List AO, _ ∧ _ ∧ _
      first | exact ⟨(m, t, []), ⟨by rw [← hq1, robjF, if_neg (by omega)], hq2, hq5⟩, ⟨rfl, rfl, rfl, rfl, trivial⟩, rfl⟩ | exact ⟨(rins m (rtext s (rblank s t)).1 v, u, _), ⟨by rw [← hq1, robjF, if_pos ⟨htb, htp⟩, hx1, hx2, if_neg (by omega)]; rfl, hvk, by simp only; omega⟩, ⟨rfl, rfl, rfl, rfl, trivial⟩, rfl⟩
   ·rw [h1]; (try simp only [decide_eq_true_eq, decide_eq_false_iff_not, Bool.not_eq_true', Bool.not_eq_false', Int.not_lt, Int.not_le, Bool.not_true, Bool.not_false, Int.toNat_natCast, tn1, tn2, tnn, bne_iff_ne, beq_iff_eq, beq_eq_false_iff_ne, ne_eq, Decidable.not_not] at h1)
    refine zg10 ?_
    refine zon ?_
    refine AWp_condF rfl ?_
    refine AWp_exit ?_
    show ∃ z : List (ByteArray × JV) × RS × List AO, _ ∧ _ ∧ _
    first | exact ⟨(m, t, []), ⟨by rw [← hq1, robjF, if_neg (by omega)], hq2, hq5⟩, ⟨rfl, rfl, rfl, rfl, trivial⟩, rfl⟩ | exact ⟨(rins m (rtext s (rblank s t)).1 v, u, _), ⟨by rw [← hq1, robjF, if_pos ⟨htb, htp⟩, hx1, hx2, if_neg (by omega)]; rfl, hvk, by simp only; omega⟩, ⟨rfl, rfl, rfl, rfl, trivial⟩, rfl⟩
  ·skip
   obtain ⟨htb, htp⟩ := hj
   refine AWp_block ?_
   refine AWp_seq ?_
   have hb1 := rblank_to hq2
   have ht1 := rtext_to hb1.ok
   have hk2 := rk2_ok (m := m) hq2
   have hb2 := rblank_to hk2.1.ok
   have hk3 := rkey_ok (rv := rval n s) (fun r h => rval_ok hs n r h) (m := m) hq2
   have hka := hk3.1.a
   have hku := hk3.1.ok.a
   have hkd := hk3.2.2.1
   refine AWp_regL ?_
   refine zg1 ?_
   refine zt rfl (zc rfl (callSA hp (blank_r s t p _ (get_setA hp) hs hq2))) ?_
   refine zon ?_
   refine zw5 ?_
   refine zu1 ?_
   refine zt rfl (zc rfl (callSA hp (text_r s (rblank s t) p _ (get_setA hp) hs hb1.ok))) ?_
   refine zv1 ?_
   refine zu2 ?_
   refine zt rfl (zc rfl ((by have hfd := FindR.ret (rfind_c (mkO m) (rtext s (rblank s t)).1 (σ.set p (rbox s (rtext s (rblank s t)).2) ++ [.box [.int .i64 0, .bool false, .bool false, .str e0, .int .i64 0, .str e0, .nils, .nils], .box [.int .i64 5, .bool false, .bool false, .str e0, .int .i64 0, .str e0, .sl false 8 (lcells []), .sl false 9 (mcells m)]]) (by show m.length ≤ _; omega)); rw [vcells_eq (mkO m)] at hfd; exact hfd))) ?_
   rw [vcells_eq ((jfind (mkO m) (rtext s (rblank s t)).1).getD vz)]
   refine zv6 ?_
   refine AWp_join (ι := Unit) (fun b => True) (fun b => ⟨[], [(0, .ptr p 0), (2, .ptr (σ.length + 0) 0), (3, .ptr (σ.length + 1) 0), (5, .str (rtext s (rblank s t)).1)]⟩) (fun b => σ.set p (rbox s (rk2 s m t)) ++ [.box [.int .i64 0, .bool false, .bool false, .str e0, .int .i64 0, .str e0, .nils, .nils], .box [.int .i64 5, .bool false, .bool false, .str e0, .int .i64 0, .str e0, .sl false 8 (lcells []), .sl false 9 (mcells m)], .box [.int .i64 ((jfind (mkO m) (rtext s (rblank s t)).1).getD vz).kind, .bool ((jfind (mkO m) (rtext s (rblank s t)).1).getD vz).b, .bool ((jfind (mkO m) (rtext s (rblank s t)).1).getD vz).n.neg, .str ((jfind (mkO m) (rtext s (rblank s t)).1).getD vz).n.digits, .int .i64 ((jfind (mkO m) (rtext s (rblank s t)).1).getD vz).n.exp, .str ((jfind (mkO m) (rtext s (rblank s t)).1).getD vz).s, .sl false 8 (lcells ((jfind (mkO m) (rtext s (rblank s t)).1).getD vz).l), .sl false 9 (mcells ((jfind (mkO m) (rtext s (rblank s t)).1).getD vz).m)]]) ?_ (fun b hj => ?_)
   ·skip
    refine zw1 ?_
    refine AWp_cond rfl (fun h4 => ?_) (fun h4 => ?_)
    ·(try rw [h4]); (try simp only [decide_eq_true_eq, decide_eq_false_iff_not, Bool.not_eq_true', Bool.not_eq_false', Int.not_lt, Int.not_le, Bool.not_true, Bool.not_false, Int.toNat_natCast, tn1, tn2, tnn, bne_iff_ne, beq_iff_eq, beq_eq_false_iff_ne, ne_eq, Decidable.not_not] at h4)
     refine AWp_regL ?_
     refine zg2 ?_
     refine zt rfl (zc rfl (callSA hp (fail_r s (rtext s (rblank s t)).2 p _ (get_setA hp) ((rblank s t).a : Int) 4))) ?_
     refine zon ?_
     refine ⟨(), trivial, ⟨rfl, rfl, rfl, rfl, rfl, trivial⟩, ?_⟩
     unfold rk2; first | (rw [if_pos (by assumption)]; rfl) | (rw [if_neg (by simp only [Bool.not_eq_true]; assumption)]; rfl) | rfl
    ·(try rw [h4]); (try simp only [decide_eq_true_eq, decide_eq_false_iff_not, Bool.not_eq_true', Bool.not_eq_false', Int.not_lt, Int.not_le, Bool.not_true, Bool.not_false, Int.toNat_natCast, tn1, tn2, tnn, bne_iff_ne, beq_iff_eq, beq_eq_false_iff_ne, ne_eq, Decidable.not_not] at h4)
     refine AWp_skip ?_
     refine ⟨(), trivial, ⟨rfl, rfl, rfl, rfl, rfl, trivial⟩, ?_⟩
     unfold rk2; first | (rw [if_pos (by assumption)]; rfl) | (rw [if_neg (by simp only [Bool.not_eq_true]; assumption)]; rfl) | rfl
   ·skip
    refine zu1 ?_
    refine zt rfl (zc rfl (callSA hp (blank_r s (rk2 s m t) p _ (get_setA hp) hs hk2.1.ok))) ?_
    refine zon ?_
    refine zu1 ?_
    refine zt rfl (zc rfl (callSA hp (want_c rb3 s (rblank s (rk2 s m t)) p _ (get_setA hp) hs (by decide) hb2.ok))) ?_
    refine zon ?_
    refine zu1 ?_
    refine zt rfl (zc rfl (callSA hp (ih (rkey s m t).2 p _ (get_setA hp) hk3.1.ok (by omega)))) ?_
    have hv := rval_ok hs n (rkey s m t).2 hk3.1.ok
    have hva := hv.fwd.a
    have hvk := hv.fwd.ok
    have hua := hv.fwd.ok.a
    have hvs := hv.size
    clear hv
    generalize hx1 : (rval n s (rkey s m t).2).1 = v at hvs ⊢
    generalize hx2 : (rval n s (rkey s m t).2).2 = u at hva hvk hua hvs ⊢
    have hl5 := msize_ins m (rkey s m t).1 v
    rw [vcells_eq v]
    refine zv2 ?_
    refine zw1 ?_
    refine AWp_joinB (ι := Nat) (fun j => rinsK m (rtext s (rblank s t)).1 = j ∧ j ≤ m.length) (fun j => ⟨[], [(0, .ptr p 0), (2, .ptr (σ.length + 0) 0), (3, .ptr (σ.length + 1) 0), (5, .str (rtext s (rblank s t)).1), (8, .ptr (σ.length + 3) 0), (9, .int .i64 (j : Int))]⟩) (fun j => σ.set p (rbox s u) ++ [.box [.int .i64 0, .bool false, .bool false, .str e0, .int .i64 0, .str e0, .nils, .nils], .box [.int .i64 5, .bool false, .bool false, .str e0, .int .i64 0, .str e0, .sl false 8 (lcells []), .sl false 9 (mcells m)], .box [.int .i64 ((jfind (mkO m) (rtext s (rblank s t)).1).getD vz).kind, .bool ((jfind (mkO m) (rtext s (rblank s t)).1).getD vz).b, .bool ((jfind (mkO m) (rtext s (rblank s t)).1).getD vz).n.neg, .str ((jfind (mkO m) (rtext s (rblank s t)).1).getD vz).n.digits, .int .i64 ((jfind (mkO m) (rtext s (rblank s t)).1).getD vz).n.exp, .str ((jfind (mkO m) (rtext s (rblank s t)).1).getD vz).s, .sl false 8 (lcells ((jfind (mkO m) (rtext s (rblank s t)).1).getD vz).l), .sl false 9 (mcells ((jfind (mkO m) (rtext s (rblank s t)).1).getD vz).m)], .box [.int .i64 v.kind, .bool v.b, .bool v.n.neg, .str v.n.digits, .int .i64 v.n.exp, .str v.s, .sl false 8 (lcells v.l), .sl false 9 (mcells v.m)]]) ?_ (fun j hz => ?_)
    ·skip
     -- loop 1 LIVE 0:param 2:alloc 3:alloc 5:assign 8:alloc 9:assign
     refine AWp_loop (ι := Nat) (fun j => j ≤ m.length ∧ rinsK m (rtext s (rblank s t)).1 = j + rinsK (m.drop j) (rtext s (rblank s t)).1) (fun j => ⟨[], [(0, .ptr p 0), (2, .ptr (σ.length + 0) 0), (3, .ptr (σ.length + 1) 0), (5, .str (rtext s (rblank s t)).1), (8, .ptr (σ.length + 3) 0), (9, .int .i64 (j : Int))]⟩) (fun j => σ.set p (rbox s u) ++ [.box [.int .i64 0, .bool false, .bool false, .str e0, .int .i64 0, .str e0, .nils, .nils], .box [.int .i64 5, .bool false, .bool false, .str e0, .int .i64 0, .str e0, .sl false 8 (lcells []), .sl false 9 (mcells m)], .box [.int .i64 ((jfind (mkO m) (rtext s (rblank s t)).1).getD vz).kind, .bool ((jfind (mkO m) (rtext s (rblank s t)).1).getD vz).b, .bool ((jfind (mkO m) (rtext s (rblank s t)).1).getD vz).n.neg, .str ((jfind (mkO m) (rtext s (rblank s t)).1).getD vz).n.digits, .int .i64 ((jfind (mkO m) (rtext s (rblank s t)).1).getD vz).n.exp, .str ((jfind (mkO m) (rtext s (rblank s t)).1).getD vz).s, .sl false 8 (lcells ((jfind (mkO m) (rtext s (rblank s t)).1).getD vz).l), .sl false 9 (mcells ((jfind (mkO m) (rtext s (rblank s t)).1).getD vz).m)], .box [.int .i64 v.kind, .bool v.b, .bool v.n.neg, .str v.n.digits, .int .i64 v.n.exp, .str v.s, .sl false 8 (lcells v.l), .sl false 9 (mcells v.m)]]) (fun j => m.length - j) (0) (⟨Nat.zero_le _, by simp⟩) ?_ rfl (fun j hj => ?_)
     ·exact ⟨rfl, rfl, rfl, rfl, rfl, rfl, rfl, trivial⟩
     obtain ⟨hj1, hj2⟩ := hj
     refine AWp_seq ?_
     refine zu6 ?_
     refine zsp 59 rfl (fun h5 => ?_) fun h5 => ?_
     ·rw [h5]; (try simp only [decide_eq_true_eq, decide_eq_false_iff_not, Bool.not_eq_true', Bool.not_eq_false', Int.not_lt, Int.not_le, Bool.not_true, Bool.not_false, Int.toNat_natCast, tn1, tn2, tnn, bne_iff_ne, beq_iff_eq, beq_eq_false_iff_ne, ne_eq, Decidable.not_not] at h5)
      obtain ⟨q, hq⟩ : ∃ q, m[j]? = some q := ⟨_, List.getElem?_eq_getElem (show j < m.length by omega)⟩
      refine zv9 ?_
      refine AWp_cond rfl (fun h6 => ?_) (fun h6 => ?_)
      ·(try rw [h6]); (try simp only [decide_eq_true_eq, decide_eq_false_iff_not, Bool.not_eq_true', Bool.not_eq_false', Int.not_lt, Int.not_le, Bool.not_true, Bool.not_false, Int.toNat_natCast, tn1, tn2, tnn, bne_iff_ne, beq_iff_eq, beq_eq_false_iff_ne, ne_eq, Decidable.not_not] at h6)
       refine AWp_skip ?_
       refine AWp_block ?_
       refine AWp_regL ?_
       refine zv3 ?_
       refine ⟨j + 1, σ.length + 4, ⟨by omega, by rw [hj2, rinsK_yes hq h6]; omega⟩, by omega, by simp, ⟨rfl, rfl, rfl, rfl, rfl, rfl, rfl, trivial⟩, closed_ownS (x := rbox s u) 4 hcl (by simp [AO.cells, AV.ltL, AV.lt]) ?_, ?_, take_ownS 4⟩
       ·simp [ownLt, AO.cells, AV.ltL, AV.lt]
       ·simp [ltE, AV.lt]; omega
      ·(try rw [h6]); (try simp only [decide_eq_true_eq, decide_eq_false_iff_not, Bool.not_eq_true', Bool.not_eq_false', Int.not_lt, Int.not_le, Bool.not_true, Bool.not_false, Int.toNat_natCast, tn1, tn2, tnn, bne_iff_ne, beq_iff_eq, beq_eq_false_iff_ne, ne_eq, Decidable.not_not] at h6)
       refine AWp_exit ?_
       show ∃ z : Nat, _ ∧ _ ∧ _
       first | exact ⟨j, ⟨by rw [hj2, rinsK_no hq (by assumption)]; rfl, hj1⟩, ⟨rfl, rfl, rfl, rfl, rfl, rfl, rfl, trivial⟩, rfl⟩ | exact ⟨j, ⟨by rw [hj2, rinsK_end (by omega)]; rfl, hj1⟩, ⟨rfl, rfl, rfl, rfl, rfl, rfl, rfl, trivial⟩, rfl⟩
     ·rw [h5]; (try simp only [decide_eq_true_eq, decide_eq_false_iff_not, Bool.not_eq_true', Bool.not_eq_false', Int.not_lt, Int.not_le, Bool.not_true, Bool.not_false, Int.toNat_natCast, tn1, tn2, tnn, bne_iff_ne, beq_iff_eq, beq_eq_false_iff_ne, ne_eq, Decidable.not_not] at h5)
      refine zv9 ?_
      refine AWp_condF rfl ?_
      refine AWp_exit ?_
      show ∃ z : Nat, _ ∧ _ ∧ _
      first | exact ⟨j, ⟨by rw [hj2, rinsK_no hq (by assumption)]; rfl, hj1⟩, ⟨rfl, rfl, rfl, rfl, rfl, rfl, rfl, trivial⟩, rfl⟩ | exact ⟨j, ⟨by rw [hj2, rinsK_end (by omega)]; rfl, hj1⟩, ⟨rfl, rfl, rfl, rfl, rfl, rfl, rfl, trivial⟩, rfl⟩
    ·skip
     obtain ⟨hkk, hj1⟩ := hz
     have htl : (m.take j).length = j := by rw [List.length_take]; omega
     have hdl : (m.drop j).length = m.length - j := List.length_drop ..
     have hrow : mrow ((rtext s (rblank s t)).1, v) = [.str (rtext s (rblank s t)).1, .int .i64 v.kind, .bool v.b, .bool v.n.neg, .str v.n.digits, .int .i64 v.n.exp, .str v.s, .sl false 8 (lcells v.l), .sl false 9 (mcells v.m)] := by rw [mrow, vcells_eq]
     refine AWp_seq ?_
     refine AWp_drawL #[0, 0, 3, 7, 0, 16, 0, 112, 255, 511] Tryz.mixed (by decide +kernel) (by decide +kernel) ?_
     refine zd1 ?_
     refine zp1 ?_
     refine zd1 ?_
     refine yE rfl rfl (op_buildSliceArrT len_set (n := 4) (cs := [.str (rtext s (rblank s t)).1, .int .i64 v.kind, .bool v.b, .bool v.n.neg, .str v.n.digits, .int .i64 v.n.exp, .str v.s, .sl false 8 (lcells v.l), .sl false 9 (mcells v.m)]) rfl rfl (op_buildSliceArr rfl Tryz.underlying26 Tryz.sizeOf122 Tryz.zeroValue122 rfl (by decide) (by decide) rfl rfl rfl)) (⟨.inl rfl, trivial⟩) (trivial) ?_
     refine zd1 ?_
     refine yP rfl rfl (zoa) (⟨.inr (op_load1 rfl Tryz.isAgg26 (ldv_ownS rfl rfl)), trivial⟩) ?_
     refine zd1 ?_
     refine yA rfl rfl (fun _ => (by first | exact op_sliceSl _ _ rfl Tryz.underlying26 Tryz.sizeOf122 rfl (by first | exact ⟨_, rfl⟩ | rfl) (by first | exact ⟨_, rfl⟩ | rfl) (by omega) (by omega) (by omega) | exact op_sliceArr _ _ rfl Tryz.underlying26 Tryz.sizeOf122 rfl GET (by first | exact ⟨_, rfl⟩ | rfl) (by first | exact ⟨_, rfl⟩ | rfl) (by omega) (by omega) (by omega))) ?_
     simp only [Int.toNat_natCast, mslice_lo']
     refine yE rfl rfl (op_appendArrT len_set 4 (sz := 9) (m := (m.drop j).length) (len := 1) (cs := (mcells (m.drop j)).flatten) rfl (.inr ⟨_, rfl⟩) Tryz.underlying26 Tryz.underlying26 Tryz.type122 rfl rfl rfl (by decide) rfl rfl rfl (by rw [← mcells_length (m.drop j)]; rfl) rfl (mones _) (by show (1 + (m.drop j).length) * 128 ≤ _; omega) (by omega) (mflat_len _)) (⟨.inl rfl, ⟨.inl rfl, trivial⟩⟩) (⟨rfl, trivial⟩) ?_
     refine zd1 ?_
     refine RP.nil rfl ?_
     refine zsr ?_
     refine zt rfl (op_buildSlice0 rfl Tryz.underlying26 Tryz.sizeOf122) ?_
     refine zg3 ?_
     refine zt rfl ((by first | exact op_sliceSl _ _ rfl Tryz.underlying26 Tryz.sizeOf122 rfl (by first | exact ⟨_, rfl⟩ | rfl) (by first | exact ⟨_, rfl⟩ | rfl) (by omega) (by omega) (by omega) | exact op_sliceArr _ _ rfl Tryz.underlying26 Tryz.sizeOf122 rfl GET (by first | exact ⟨_, rfl⟩ | rfl) (by first | exact ⟨_, rfl⟩ | rfl) (by omega) (by omega) (by omega))) ?_
     simp only [Int.toNat_natCast]
     rw [mslice_hi]
     refine zt rfl (op_appendNewT len_set (n := 5) rfl (sz := 9) (m := (m.take j).length) (cs := (mcells (m.take j)).flatten) rfl (.inr ⟨_, rfl⟩) Tryz.underlying26 Tryz.underlying26 Tryz.type122 rfl rfl rfl (by decide) (.inr rfl) (by rw [← mcells_length (m.take j)]; rfl) rfl (mones _) (by show (m.take j).length * 128 ≤ _; omega) (by omega) (mflat_len _)) ?_
     refine zg1 ?_
     refine zt rfl (op_appendArrT len_set 5 (sz := 9) (m := 1 + (m.drop j).length) (len := (m.take j).length) (cs := [.str (rtext s (rblank s t)).1, .int .i64 v.kind, .bool v.b, .bool v.n.neg, .str v.n.digits, .int .i64 v.n.exp, .str v.s, .sl false 8 (lcells v.l), .sl false 9 (mcells v.m)] ++ (mcells (m.drop j)).flatten) rfl (.inr ⟨_, rfl⟩) Tryz.underlying26 Tryz.underlying26 Tryz.type122 rfl rfl rfl (by decide) rfl rfl (mflat_len _).symm (srcv_arrT len_set 4 rfl (by rw [List.length_append, mflat_len]; simp only [List.length_cons, List.length_nil]; omega)) rfl (by rw [ones_append, mones]; rfl) (by show ((m.take j).length + (1 + (m.drop j).length)) * 128 ≤ _; omega) (by omega) (by rw [List.length_append, mflat_len]; simp only [List.length_cons, List.length_nil]; omega)) ?_
     refine zg1 ?_
     refine ztN rfl rfl (op_storeOS (r := [.int .i64 5, .bool false, .bool false, .str e0, .int .i64 0, .str e0, .sl false 8 (lcells []), .arr (σ.length + 5) 1 9 0 ((m.take j).length + (1 + (m.drop j).length))]) rfl Tryz.sizeOf26 rfl rfl rfl rfl rfl (by decide)) ?_
     refine zon ?_
     refine AWp_seq ?_
     refine AWp_seq ?_
     refine AWp_freezeInS 1 7 5 1 9 0 ((m.take j).length + (1 + (m.drop j).length)) rfl rfl rfl (mcells (rins m (rtext s (rblank s t)).1 v)) (by rw [Nat.zero_mul, List.drop_zero, List.take_of_length_le (by simp only [List.length_append, mflat_len, List.length_cons, List.length_nil]; omega), mflat_ins, hkk, hrow]) (mrows_len _) (by rw [mcells_length, rins_len]; omega) (by decide) (by simp only [List.length_append, mflat_len, List.length_cons, List.length_nil]; omega) ?_
     refine AWp_regL ?_
     refine zg1 ?_
     refine zt rfl (zc rfl (peek_r s u p _ (get_setA hp))) ?_
     refine zv1 ?_
     refine AWp_cond rfl (fun h7 => ?_) (fun h7 => ?_)
     ·(try rw [h7]); (try simp only [decide_eq_true_eq, decide_eq_false_iff_not, Bool.not_eq_true', Bool.not_eq_false', Int.not_lt, Int.not_le, Bool.not_true, Bool.not_false, Int.toNat_natCast, tn1, tn2, tnn, bne_iff_ne, beq_iff_eq, beq_eq_false_iff_ne, ne_eq, Decidable.not_not] at h7)
      refine AWp_exit ?_
      show ∃ z : List (ByteArray × JV) × RS × List AO, _ ∧ _ ∧ _
      first | exact ⟨(m, t, []), ⟨by rw [← hq1, robjF, if_neg (by omega)], hq2, hq5⟩, ⟨rfl, rfl, rfl, rfl, trivial⟩, rfl⟩ | exact ⟨(rins m (rtext s (rblank s t)).1 v, u, _), ⟨by rw [← hq1, robjF, if_pos ⟨htb, htp⟩, hx1, hx2, if_neg (by omega)]; rfl, hvk, by simp only; omega⟩, ⟨rfl, rfl, rfl, rfl, trivial⟩, rfl⟩
     ·(try rw [h7]); (try simp only [decide_eq_true_eq, decide_eq_false_iff_not, Bool.not_eq_true', Bool.not_eq_false', Int.not_lt, Int.not_le, Bool.not_true, Bool.not_false, Int.toNat_natCast, tn1, tn2, tnn, bne_iff_ne, beq_iff_eq, beq_eq_false_iff_ne, ne_eq, Decidable.not_not] at h7)
      refine AWp_skip ?_
      refine AWp_regL ?_
      refine zv8 ?_
      have hstep : robjF (rval n s) s (k + 1) m t = robjF (rval n s) s k (rins m (rtext s (rblank s t)).1 v) (rinc u) := by rw [robjF, if_pos ⟨htb, htp⟩, hx1, hx2, if_pos (by omega)]; rfl
      refine ⟨(k, rins m (rtext s (rblank s t)).1 v, rinc u), σ.length + 2, ⟨by rw [← hq1, hstep], (rinc_to hvk (by omega)).ok, ?_, by simp only [rinc]; omega, by simp only [rinc]; omega⟩, by simp only; omega, by simp, ⟨rfl, rfl, rfl, rfl, trivial⟩, closed_ownS (x := rbox s (rinc u)) 2 hcl (by simp [AO.cells, AV.ltL, AV.lt]) ?_, ?_, take_ownS 2⟩
      ·show msize (rins m (rkey s m t).1 v) ≤ _; rw [hl5]; simp only [rinc]; omega
      ·simp [ownLt, AO.cells, AV.ltL, AV.lt, ofConst1]
      ·simp [ltE, AV.lt]; omega
 ·skip
  obtain ⟨m, t, w⟩ := z
  obtain ⟨hz1, hz2, hz3⟩ := hz
  simp only at hz1 hz2 hz3 ⊢
  have hres : robj (rval n s) s r = (mkO m, rdec (rwant s rb2 t)) := by unfold robj; rw [hz1]
  refine zu1 ?_
  refine zt rfl (zc rfl (callSA hp (want_c rb2 s t p _ (get_setA hp) hs (by decide) hz2))) ?_
  refine zon ?_
  refine AWp_seq ?_
  have hw := rwant_to (s := s) (lit := rb2) hz2
  have hw1 := hw.1.ok.d0
  have hw2 := hw.1.ok.d1
  have hw3 := hw.1.ok.a
  refine AWp_regL ?_
  refine zv8 ?_
  refine zw2 ?_
  refine zrt ?_
  rw [hres, vcells_eq]
  exact RQ_retS (rkvs_cons (rkv_ckS rfl rfl rfl) rfl) (x := rbox s (rdec (rwant s rb2 t))) hcl (by simp [AO.cells, AV.ltL, AV.lt]) (by simp [rks, AV.lt, AV.ltL]) ⟨rfl, rfl⟩
end Lg
