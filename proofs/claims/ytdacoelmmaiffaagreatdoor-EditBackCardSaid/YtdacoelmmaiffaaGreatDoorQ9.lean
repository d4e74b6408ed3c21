/- A part of the proof of For every input the law doubletlaw07.EditBack returns true: what was added, or replaced, is there; what was added and was not there, removed again, leaves all as it was; what was removed, added again, too; the value stays as it is; the input reads as it did.: W17 W21 W22 X5 Y14 M2 M3 Lt4 Lt5 Le9 Le10. -/
import Derived.Test.YtdacoelmmaiffaaGreatDoorQ7
import Derived.Test.YtdacoelmmaiffaaGreatDoorQ4
import Derived.Test.YtdacoelmmaiffaaGreatDoorQ8
import Derived.Test.YtdacoelmmaiffaaGreatDoorQ5
import Derived.Test.YtdacoelmmaiffaaGreatDoorQ6
set_option linter.unusedVariables false
set_option linter.unusedSimpArgs false
set_option linter.unusedSectionVars false
set_option maxRecDepth 20000
set_option maxHeartbeats 4000000
namespace Lg
open Go Go.Proofs Go.RowKit
variable [GLay] 
theorem rnum_c (s : ByteArray) (σ : List AO) (hs : s.size ≤ 1000000) : ACalls Tryz.prog 95 [.str s] σ (Ret (.tup [.agg (ncells (rNum s).1), .int .i64 (rNum s).2]) σ) := by
 refine ACalls_bodyC Tryz.func95 rfl Tryz.ntmps95 (by rw [Tryz.results95]; exact (.ck Tryz.isAgg24 Tryz.sizeOf24 (.t .nil))) (Nat.le_of_ble_eq_true rfl) (fun hcl hal => ?_)
 refine zw2 ?_
 refine zu1 ?_
 refine zt rfl (zc rfl (end_c s 0 _ hs (by omega))) ?_
 refine zv5 ?_
 refine AWp_seq ?_
 refine zu3 ?_
 refine zsp 25 rfl (fun h1 => ?_) fun h1 => ?_
 ·rw [h1]; (try simp only [decide_eq_true_eq, decide_eq_false_iff_not, Bool.not_eq_true', Bool.not_eq_false', Int.not_lt, Int.not_le, Bool.not_true, Bool.not_false, Int.toNat_natCast, tn1, tn2, tm1, tnn, bne_iff_ne, beq_iff_eq, beq_eq_false_iff_ne, ne_eq, Decidable.not_not] at h1)
  refine zv5 ?_
  refine AWp_condT rfl ?_
  refine zw3 ?_
  refine zrt ?_
  have hE : rNum s = ({}, 1) := by unfold rNum; rw [if_pos (.inl (by simpa using h1))]
  rw [hE]; exact RQ_ret (rkvs_cons (rkv_ck rfl rfl rfl) (rkvs_cons (rkv_t rfl) rfl)) hcl (by simp [rks, AV.lt, AV.ltL, ofConst1, ncells]) (Ret_of rfl)
 ·rw [h1]; (try simp only [decide_eq_true_eq, decide_eq_false_iff_not, Bool.not_eq_true', Bool.not_eq_false', Int.not_lt, Int.not_le, Bool.not_true, Bool.not_false, Int.toNat_natCast, tn1, tn2, tm1, tnn, bne_iff_ne, beq_iff_eq, beq_eq_false_iff_ne, ne_eq, Decidable.not_not] at h1)
  refine zv5 ?_
  refine AWp_cond rfl (fun h2 => ?_) (fun h2 => ?_)
  ·(try rw [h2]); (try simp only [decide_eq_true_eq, decide_eq_false_iff_not, Bool.not_eq_true', Bool.not_eq_false', Int.not_lt, Int.not_le, Bool.not_true, Bool.not_false, Int.toNat_natCast, tn1, tn2, tm1, tnn, bne_iff_ne, beq_iff_eq, beq_eq_false_iff_ne, ne_eq, Decidable.not_not] at h2)
   refine zw3 ?_
   refine zrt ?_
   have hE : rNum s = ({}, 1) := by unfold rNum; rw [if_pos (.inr (by omega))]
   rw [hE]; exact RQ_ret (rkvs_cons (rkv_ck rfl rfl rfl) (rkvs_cons (rkv_t rfl) rfl)) hcl (by simp [rks, AV.lt, AV.ltL, ofConst1, ncells]) (Ret_of rfl)
  ·(try rw [h2]); (try simp only [decide_eq_true_eq, decide_eq_false_iff_not, Bool.not_eq_true', Bool.not_eq_false', Int.not_lt, Int.not_le, Bool.not_true, Bool.not_false, Int.toNat_natCast, tn1, tn2, tm1, tnn, bne_iff_ne, beq_iff_eq, beq_eq_false_iff_ne, ne_eq, Decidable.not_not] at h2)
   refine AWp_skip ?_
   refine zw1 ?_
   refine zw1 ?_
   refine zw1 ?_
   refine zw1 ?_
   refine zw1 ?_
   refine zw1 ?_
   refine zw1 ?_
   refine AWp_seq ?_
   refine zw1 ?_
   refine AWp_block ?_
   -- loop 0 LIVE 0:param 2:alloc 3:assign 6:alloc 7:assign 8:assign 9:assign 10:assign 11:assign 12:assign 13:assign
   refine AWp_loop (ι := Nat × NSt) (fun q => nloop s q.1 q.2 = nloop s 0 nst0 ∧ q.1 ≤ s.size ∧ (0 ≤ q.2.behind ∧ q.2.behind ≤ q.1) ∧ q.2.digits.size ≤ q.1 ∧ 0 ≤ q.2.exp ∧ q.2.exp ≤ 1000000) (fun q => ⟨[], [(0, .str s), (2, .ptr (σ.length + 0) 0), (6, .ptr (σ.length + 1) 0), (7, .str q.2.digits), (8, .int .i64 q.2.behind), (9, .bool q.2.point), (10, .int .i64 q.2.exp), (11, .bool q.2.down), (12, .bool q.2.power), (13, .int .i64 (q.1 : Int))]⟩) (fun q => σ ++ [.box [.bool false, .str e0, .int .i64 0], .box [.bool q.2.neg, .str e0, .int .i64 0]]) (fun q => s.size - q.1) ((0, nst0)) (⟨rfl, Nat.zero_le _, ⟨Int.le_refl _, Int.le_refl _⟩, Nat.le_refl _, Int.le_refl _, by decide⟩) ?_ rfl (fun q hq => ?_)
   ·exact ⟨rfl, rfl, rfl, rfl, rfl, rfl, rfl, rfl, rfl, rfl, rfl, trivial⟩
   obtain ⟨i, ng, dn, pt, pw, d, b, x⟩ := q
   obtain ⟨hq1, hq2, hq3, hq4, hq5, hq6⟩ := hq
   simp only at hq1 hq2 hq3 hq4 hq5 hq6 ⊢
   have hbl := bat_lt s i
   have h1s : (ByteArray.mk #[u8b ((bat s i).toNat : Int)]).size = 1 := rfl
   refine AWp_seq ?_
   refine zw4 ?_
   refine AWp_cond rfl (fun h3 => ?_) (fun h3 => ?_)
   ·(try rw [h3]); (try simp only [decide_eq_true_eq, decide_eq_false_iff_not, Bool.not_eq_true', Bool.not_eq_false', Int.not_lt, Int.not_le, Bool.not_true, Bool.not_false, Int.toNat_natCast, tn1, tn2, tm1, tnn, bne_iff_ne, beq_iff_eq, beq_eq_false_iff_ne, ne_eq, Decidable.not_not] at h3)
    refine AWp_skip ?_
    refine AWp_seq ?_
    refine AWp_block ?_
    refine zu3 ?_
    simp only [Int.toNat_natCast]
    refine zv1 ?_
    refine zw1 ?_
    refine AWp_cond rfl (fun h4 => ?_) (fun h4 => ?_)
    ·(try rw [h4]); (try simp only [decide_eq_true_eq, decide_eq_false_iff_not, Bool.not_eq_true', Bool.not_eq_false', Int.not_lt, Int.not_le, Bool.not_true, Bool.not_false, Int.toNat_natCast, tn1, tn2, tm1, tnn, bne_iff_ne, beq_iff_eq, beq_eq_false_iff_ne, ne_eq, Decidable.not_not] at h4)
     subst h4
     refine AWp_seq ?_
     refine zw2 ?_
     refine AWp_cond rfl (fun h5 => ?_) (fun h5 => ?_)
     ·(try rw [h5]); (try simp only [decide_eq_true_eq, decide_eq_false_iff_not, Bool.not_eq_true', Bool.not_eq_false', Int.not_lt, Int.not_le, Bool.not_true, Bool.not_false, Int.toNat_natCast, tn1, tn2, tm1, tnn, bne_iff_ne, beq_iff_eq, beq_eq_false_iff_ne, ne_eq, Decidable.not_not] at h5)
      refine AWp_regL ?_
      refine zv1 ?_
      refine zu3 ?_
      refine zsp 46 rfl (fun h6 => ?_) fun h6 => ?_
      ·rw [h6]; (try simp only [decide_eq_true_eq, decide_eq_false_iff_not, Bool.not_eq_true', Bool.not_eq_false', Int.not_lt, Int.not_le, Bool.not_true, Bool.not_false, Int.toNat_natCast, tn1, tn2, tm1, tnn, bne_iff_ne, beq_iff_eq, beq_eq_false_iff_ne, ne_eq, Decidable.not_not] at h6)
       refine zv3 ?_
       refine AWp_cond rfl (fun h7 => ?_) (fun h7 => ?_)
       ·(try rw [h7]); (try simp only [decide_eq_true_eq, decide_eq_false_iff_not, Bool.not_eq_true', Bool.not_eq_false', Int.not_lt, Int.not_le, Bool.not_true, Bool.not_false, Int.toNat_natCast, tn1, tn2, tm1, tnn, bne_iff_ne, beq_iff_eq, beq_eq_false_iff_ne, ne_eq, Decidable.not_not] at h7)
        refine AWp_regL ?_
        refine zv8 ?_
        refine AWp_regL ?_
        refine zv3 ?_
        first | (exfalso; omega; done) | exact ⟨(i + 1, ⟨ng, true, pt, true, d, b, x⟩), σ.length + 2, ⟨by rw [← hq1]; exact (nl1 (by omega) (by omega)).symm, by simp only; omega, by simp only; omega, by simp only [ByteArray.size_append]; omega, by simp only; omega, by simp only; omega⟩, by simp only; omega, by simp, ⟨rfl, rfl, rfl, rfl, rfl, rfl, rfl, rfl, rfl, rfl, rfl, trivial⟩, closed_own 2 hcl (by simp [ownLt, AO.cells, AV.ltL, AV.lt]), by simp [ltE, AV.lt], take_own 2⟩ | exact ⟨(i + 1, ⟨ng, dn, pt, true, d, b, min (10 * x + (bat s i).toNat - 48) 1000000⟩), σ.length + 2, ⟨by rw [← hq1]; exact (nl2 (by omega) (by omega)).symm, by simp only; omega, by simp only; omega, by simp only [ByteArray.size_append]; omega, by simp only; omega, by simp only; omega⟩, by simp only; omega, by simp, ⟨rfl, rfl, rfl, rfl, rfl, rfl, rfl, rfl, rfl, rfl, rfl, trivial⟩, closed_own 2 hcl (by simp [ownLt, AO.cells, AV.ltL, AV.lt]), by simp [ltE, AV.lt], take_own 2⟩ | exact ⟨(i + 1, ⟨ng, dn, pt, true, d, b, x⟩), σ.length + 2, ⟨by rw [← hq1]; exact (nl3 (by omega) (by omega) (by omega)).symm, by simp only; omega, by simp only; omega, by simp only [ByteArray.size_append]; omega, by simp only; omega, by simp only; omega⟩, by simp only; omega, by simp, ⟨rfl, rfl, rfl, rfl, rfl, rfl, rfl, rfl, rfl, rfl, rfl, trivial⟩, closed_own 2 hcl (by simp [ownLt, AO.cells, AV.ltL, AV.lt]), by simp [ltE, AV.lt], take_own 2⟩ | exact ⟨(i + 1, ⟨true, dn, pt, false, d, b, x⟩), σ.length + 2, ⟨by rw [← hq1]; exact (nl4 (by omega) (by omega)).symm, by simp only; omega, by simp only; omega, by simp only [ByteArray.size_append]; omega, by simp only; omega, by simp only; omega⟩, by simp only; omega, by simp, ⟨rfl, rfl, rfl, rfl, rfl, rfl, rfl, rfl, rfl, rfl, rfl, trivial⟩, closed_own 2 hcl (by simp [ownLt, AO.cells, AV.ltL, AV.lt]), by simp [ltE, AV.lt], take_own 2⟩ | exact ⟨(i + 1, ⟨ng, dn, true, false, d, b, x⟩), σ.length + 2, ⟨by rw [← hq1]; exact (nl5 (by omega) (by omega)).symm, by simp only; omega, by simp only; omega, by simp only [ByteArray.size_append]; omega, by simp only; omega, by simp only; omega⟩, by simp only; omega, by simp, ⟨rfl, rfl, rfl, rfl, rfl, rfl, rfl, rfl, rfl, rfl, rfl, trivial⟩, closed_own 2 hcl (by simp [ownLt, AO.cells, AV.ltL, AV.lt]), by simp [ltE, AV.lt], take_own 2⟩ | exact ⟨(i + 1, ⟨ng, dn, pt, true, d, b, x⟩), σ.length + 2, ⟨by rw [← hq1]; exact (nl6 (by omega) (by omega)).symm, by simp only; omega, by simp only; omega, by simp only [ByteArray.size_append]; omega, by simp only; omega, by simp only; omega⟩, by simp only; omega, by simp, ⟨rfl, rfl, rfl, rfl, rfl, rfl, rfl, rfl, rfl, rfl, rfl, trivial⟩, closed_own 2 hcl (by simp [ownLt, AO.cells, AV.ltL, AV.lt]), by simp [ltE, AV.lt], take_own 2⟩ | exact ⟨(i + 1, ⟨ng, dn, true, false, d ++ ⟨#[u8b ((bat s i).toNat : Int)]⟩, b + 1, x⟩), σ.length + 2, ⟨by rw [← hq1]; exact (nl7 (by omega) (by omega) (by omega) (by omega)).symm, by simp only; omega, by simp only; omega, by simp only [ByteArray.size_append]; omega, by simp only; omega, by simp only; omega⟩, by simp only; omega, by simp, ⟨rfl, rfl, rfl, rfl, rfl, rfl, rfl, rfl, rfl, rfl, rfl, trivial⟩, closed_own 2 hcl (by simp [ownLt, AO.cells, AV.ltL, AV.lt]), by simp [ltE, AV.lt], take_own 2⟩ | exact ⟨(i + 1, ⟨ng, dn, false, false, d ++ ⟨#[u8b ((bat s i).toNat : Int)]⟩, b, x⟩), σ.length + 2, ⟨by rw [← hq1]; exact (nl8 (by omega) (by omega) (by omega) (by omega)).symm, by simp only; omega, by simp only; omega, by simp only [ByteArray.size_append]; omega, by simp only; omega, by simp only; omega⟩, by simp only; omega, by simp, ⟨rfl, rfl, rfl, rfl, rfl, rfl, rfl, rfl, rfl, rfl, rfl, trivial⟩, closed_own 2 hcl (by simp [ownLt, AO.cells, AV.ltL, AV.lt]), by simp [ltE, AV.lt], take_own 2⟩
       ·(try rw [h7]); (try simp only [decide_eq_true_eq, decide_eq_false_iff_not, Bool.not_eq_true', Bool.not_eq_false', Int.not_lt, Int.not_le, Bool.not_true, Bool.not_false, Int.toNat_natCast, tn1, tn2, tm1, tnn, bne_iff_ne, beq_iff_eq, beq_eq_false_iff_ne, ne_eq, Decidable.not_not] at h7)
        refine AWp_skip ?_
        refine AWp_regL ?_
        refine zv3 ?_
        first | (exfalso; omega; done) | exact ⟨(i + 1, ⟨ng, true, pt, true, d, b, x⟩), σ.length + 2, ⟨by rw [← hq1]; exact (nl1 (by omega) (by omega)).symm, by simp only; omega, by simp only; omega, by simp only [ByteArray.size_append]; omega, by simp only; omega, by simp only; omega⟩, by simp only; omega, by simp, ⟨rfl, rfl, rfl, rfl, rfl, rfl, rfl, rfl, rfl, rfl, rfl, trivial⟩, closed_own 2 hcl (by simp [ownLt, AO.cells, AV.ltL, AV.lt]), by simp [ltE, AV.lt], take_own 2⟩ | exact ⟨(i + 1, ⟨ng, dn, pt, true, d, b, min (10 * x + (bat s i).toNat - 48) 1000000⟩), σ.length + 2, ⟨by rw [← hq1]; exact (nl2 (by omega) (by omega)).symm, by simp only; omega, by simp only; omega, by simp only [ByteArray.size_append]; omega, by simp only; omega, by simp only; omega⟩, by simp only; omega, by simp, ⟨rfl, rfl, rfl, rfl, rfl, rfl, rfl, rfl, rfl, rfl, rfl, trivial⟩, closed_own 2 hcl (by simp [ownLt, AO.cells, AV.ltL, AV.lt]), by simp [ltE, AV.lt], take_own 2⟩ | exact ⟨(i + 1, ⟨ng, dn, pt, true, d, b, x⟩), σ.length + 2, ⟨by rw [← hq1]; exact (nl3 (by omega) (by omega) (by omega)).symm, by simp only; omega, by simp only; omega, by simp only [ByteArray.size_append]; omega, by simp only; omega, by simp only; omega⟩, by simp only; omega, by simp, ⟨rfl, rfl, rfl, rfl, rfl, rfl, rfl, rfl, rfl, rfl, rfl, trivial⟩, closed_own 2 hcl (by simp [ownLt, AO.cells, AV.ltL, AV.lt]), by simp [ltE, AV.lt], take_own 2⟩ | exact ⟨(i + 1, ⟨true, dn, pt, false, d, b, x⟩), σ.length + 2, ⟨by rw [← hq1]; exact (nl4 (by omega) (by omega)).symm, by simp only; omega, by simp only; omega, by simp only [ByteArray.size_append]; omega, by simp only; omega, by simp only; omega⟩, by simp only; omega, by simp, ⟨rfl, rfl, rfl, rfl, rfl, rfl, rfl, rfl, rfl, rfl, rfl, trivial⟩, closed_own 2 hcl (by simp [ownLt, AO.cells, AV.ltL, AV.lt]), by simp [ltE, AV.lt], take_own 2⟩ | exact ⟨(i + 1, ⟨ng, dn, true, false, d, b, x⟩), σ.length + 2, ⟨by rw [← hq1]; exact (nl5 (by omega) (by omega)).symm, by simp only; omega, by simp only; omega, by simp only [ByteArray.size_append]; omega, by simp only; omega, by simp only; omega⟩, by simp only; omega, by simp, ⟨rfl, rfl, rfl, rfl, rfl, rfl, rfl, rfl, rfl, rfl, rfl, trivial⟩, closed_own 2 hcl (by simp [ownLt, AO.cells, AV.ltL, AV.lt]), by simp [ltE, AV.lt], take_own 2⟩ | exact ⟨(i + 1, ⟨ng, dn, pt, true, d, b, x⟩), σ.length + 2, ⟨by rw [← hq1]; exact (nl6 (by omega) (by omega)).symm, by simp only; omega, by simp only; omega, by simp only [ByteArray.size_append]; omega, by simp only; omega, by simp only; omega⟩, by simp only; omega, by simp, ⟨rfl, rfl, rfl, rfl, rfl, rfl, rfl, rfl, rfl, rfl, rfl, trivial⟩, closed_own 2 hcl (by simp [ownLt, AO.cells, AV.ltL, AV.lt]), by simp [ltE, AV.lt], take_own 2⟩ | exact ⟨(i + 1, ⟨ng, dn, true, false, d ++ ⟨#[u8b ((bat s i).toNat : Int)]⟩, b + 1, x⟩), σ.length + 2, ⟨by rw [← hq1]; exact (nl7 (by omega) (by omega) (by omega) (by omega)).symm, by simp only; omega, by simp only; omega, by simp only [ByteArray.size_append]; omega, by simp only; omega, by simp only; omega⟩, by simp only; omega, by simp, ⟨rfl, rfl, rfl, rfl, rfl, rfl, rfl, rfl, rfl, rfl, rfl, trivial⟩, closed_own 2 hcl (by simp [ownLt, AO.cells, AV.ltL, AV.lt]), by simp [ltE, AV.lt], take_own 2⟩ | exact ⟨(i + 1, ⟨ng, dn, false, false, d ++ ⟨#[u8b ((bat s i).toNat : Int)]⟩, b, x⟩), σ.length + 2, ⟨by rw [← hq1]; exact (nl8 (by omega) (by omega) (by omega) (by omega)).symm, by simp only; omega, by simp only; omega, by simp only [ByteArray.size_append]; omega, by simp only; omega, by simp only; omega⟩, by simp only; omega, by simp, ⟨rfl, rfl, rfl, rfl, rfl, rfl, rfl, rfl, rfl, rfl, rfl, trivial⟩, closed_own 2 hcl (by simp [ownLt, AO.cells, AV.ltL, AV.lt]), by simp [ltE, AV.lt], take_own 2⟩
      ·rw [h6]; (try simp only [decide_eq_true_eq, decide_eq_false_iff_not, Bool.not_eq_true', Bool.not_eq_false', Int.not_lt, Int.not_le, Bool.not_true, Bool.not_false, Int.toNat_natCast, tn1, tn2, tm1, tnn, bne_iff_ne, beq_iff_eq, beq_eq_false_iff_ne, ne_eq, Decidable.not_not] at h6)
       refine zv3 ?_
       refine AWp_condF rfl ?_
       refine AWp_skip ?_
       refine AWp_regL ?_
       refine zv3 ?_
       first | (exfalso; omega; done) | exact ⟨(i + 1, ⟨ng, true, pt, true, d, b, x⟩), σ.length + 2, ⟨by rw [← hq1]; exact (nl1 (by omega) (by omega)).symm, by simp only; omega, by simp only; omega, by simp only [ByteArray.size_append]; omega, by simp only; omega, by simp only; omega⟩, by simp only; omega, by simp, ⟨rfl, rfl, rfl, rfl, rfl, rfl, rfl, rfl, rfl, rfl, rfl, trivial⟩, closed_own 2 hcl (by simp [ownLt, AO.cells, AV.ltL, AV.lt]), by simp [ltE, AV.lt], take_own 2⟩ | exact ⟨(i + 1, ⟨ng, dn, pt, true, d, b, min (10 * x + (bat s i).toNat - 48) 1000000⟩), σ.length + 2, ⟨by rw [← hq1]; exact (nl2 (by omega) (by omega)).symm, by simp only; omega, by simp only; omega, by simp only [ByteArray.size_append]; omega, by simp only; omega, by simp only; omega⟩, by simp only; omega, by simp, ⟨rfl, rfl, rfl, rfl, rfl, rfl, rfl, rfl, rfl, rfl, rfl, trivial⟩, closed_own 2 hcl (by simp [ownLt, AO.cells, AV.ltL, AV.lt]), by simp [ltE, AV.lt], take_own 2⟩ | exact ⟨(i + 1, ⟨ng, dn, pt, true, d, b, x⟩), σ.length + 2, ⟨by rw [← hq1]; exact (nl3 (by omega) (by omega) (by omega)).symm, by simp only; omega, by simp only; omega, by simp only [ByteArray.size_append]; omega, by simp only; omega, by simp only; omega⟩, by simp only; omega, by simp, ⟨rfl, rfl, rfl, rfl, rfl, rfl, rfl, rfl, rfl, rfl, rfl, trivial⟩, closed_own 2 hcl (by simp [ownLt, AO.cells, AV.ltL, AV.lt]), by simp [ltE, AV.lt], take_own 2⟩ | exact ⟨(i + 1, ⟨true, dn, pt, false, d, b, x⟩), σ.length + 2, ⟨by rw [← hq1]; exact (nl4 (by omega) (by omega)).symm, by simp only; omega, by simp only; omega, by simp only [ByteArray.size_append]; omega, by simp only; omega, by simp only; omega⟩, by simp only; omega, by simp, ⟨rfl, rfl, rfl, rfl, rfl, rfl, rfl, rfl, rfl, rfl, rfl, trivial⟩, closed_own 2 hcl (by simp [ownLt, AO.cells, AV.ltL, AV.lt]), by simp [ltE, AV.lt], take_own 2⟩ | exact ⟨(i + 1, ⟨ng, dn, true, false, d, b, x⟩), σ.length + 2, ⟨by rw [← hq1]; exact (nl5 (by omega) (by omega)).symm, by simp only; omega, by simp only; omega, by simp only [ByteArray.size_append]; omega, by simp only; omega, by simp only; omega⟩, by simp only; omega, by simp, ⟨rfl, rfl, rfl, rfl, rfl, rfl, rfl, rfl, rfl, rfl, rfl, trivial⟩, closed_own 2 hcl (by simp [ownLt, AO.cells, AV.ltL, AV.lt]), by simp [ltE, AV.lt], take_own 2⟩ | exact ⟨(i + 1, ⟨ng, dn, pt, true, d, b, x⟩), σ.length + 2, ⟨by rw [← hq1]; exact (nl6 (by omega) (by omega)).symm, by simp only; omega, by simp only; omega, by simp only [ByteArray.size_append]; omega, by simp only; omega, by simp only; omega⟩, by simp only; omega, by simp, ⟨rfl, rfl, rfl, rfl, rfl, rfl, rfl, rfl, rfl, rfl, rfl, trivial⟩, closed_own 2 hcl (by simp [ownLt, AO.cells, AV.ltL, AV.lt]), by simp [ltE, AV.lt], take_own 2⟩ | exact ⟨(i + 1, ⟨ng, dn, true, false, d ++ ⟨#[u8b ((bat s i).toNat : Int)]⟩, b + 1, x⟩), σ.length + 2, ⟨by rw [← hq1]; exact (nl7 (by omega) (by omega) (by omega) (by omega)).symm, by simp only; omega, by simp only; omega, by simp only [ByteArray.size_append]; omega, by simp only; omega, by simp only; omega⟩, by simp only; omega, by simp, ⟨rfl, rfl, rfl, rfl, rfl, rfl, rfl, rfl, rfl, rfl, rfl, trivial⟩, closed_own 2 hcl (by simp [ownLt, AO.cells, AV.ltL, AV.lt]), by simp [ltE, AV.lt], take_own 2⟩ | exact ⟨(i + 1, ⟨ng, dn, false, false, d ++ ⟨#[u8b ((bat s i).toNat : Int)]⟩, b, x⟩), σ.length + 2, ⟨by rw [← hq1]; exact (nl8 (by omega) (by omega) (by omega) (by omega)).symm, by simp only; omega, by simp only; omega, by simp only [ByteArray.size_append]; omega, by simp only; omega, by simp only; omega⟩, by simp only; omega, by simp, ⟨rfl, rfl, rfl, rfl, rfl, rfl, rfl, rfl, rfl, rfl, rfl, trivial⟩, closed_own 2 hcl (by simp [ownLt, AO.cells, AV.ltL, AV.lt]), by simp [ltE, AV.lt], take_own 2⟩
     ·(try rw [h5]); (try simp only [decide_eq_true_eq, decide_eq_false_iff_not, Bool.not_eq_true', Bool.not_eq_false', Int.not_lt, Int.not_le, Bool.not_true, Bool.not_false, Int.toNat_natCast, tn1, tn2, tm1, tnn, bne_iff_ne, beq_iff_eq, beq_eq_false_iff_ne, ne_eq, Decidable.not_not] at h5)
      refine AWp_skip ?_
      refine zu3 ?_
      refine zsp 46 rfl (fun h8 => ?_) fun h8 => ?_
      ·rw [h8]; (try simp only [decide_eq_true_eq, decide_eq_false_iff_not, Bool.not_eq_true', Bool.not_eq_false', Int.not_lt, Int.not_le, Bool.not_true, Bool.not_false, Int.toNat_natCast, tn1, tn2, tm1, tnn, bne_iff_ne, beq_iff_eq, beq_eq_false_iff_ne, ne_eq, Decidable.not_not] at h8)
       refine zv3 ?_
       refine AWp_cond rfl (fun h9 => ?_) (fun h9 => ?_)
       ·(try rw [h9]); (try simp only [decide_eq_true_eq, decide_eq_false_iff_not, Bool.not_eq_true', Bool.not_eq_false', Int.not_lt, Int.not_le, Bool.not_true, Bool.not_false, Int.toNat_natCast, tn1, tn2, tm1, tnn, bne_iff_ne, beq_iff_eq, beq_eq_false_iff_ne, ne_eq, Decidable.not_not] at h9)
        refine AWp_regL ?_
        refine zv8 ?_
        refine AWp_regL ?_
        refine zv3 ?_
        first | (exfalso; omega; done) | exact ⟨(i + 1, ⟨ng, true, pt, true, d, b, x⟩), σ.length + 2, ⟨by rw [← hq1]; exact (nl1 (by omega) (by omega)).symm, by simp only; omega, by simp only; omega, by simp only [ByteArray.size_append]; omega, by simp only; omega, by simp only; omega⟩, by simp only; omega, by simp, ⟨rfl, rfl, rfl, rfl, rfl, rfl, rfl, rfl, rfl, rfl, rfl, trivial⟩, closed_own 2 hcl (by simp [ownLt, AO.cells, AV.ltL, AV.lt]), by simp [ltE, AV.lt], take_own 2⟩ | exact ⟨(i + 1, ⟨ng, dn, pt, true, d, b, min (10 * x + (bat s i).toNat - 48) 1000000⟩), σ.length + 2, ⟨by rw [← hq1]; exact (nl2 (by omega) (by omega)).symm, by simp only; omega, by simp only; omega, by simp only [ByteArray.size_append]; omega, by simp only; omega, by simp only; omega⟩, by simp only; omega, by simp, ⟨rfl, rfl, rfl, rfl, rfl, rfl, rfl, rfl, rfl, rfl, rfl, trivial⟩, closed_own 2 hcl (by simp [ownLt, AO.cells, AV.ltL, AV.lt]), by simp [ltE, AV.lt], take_own 2⟩ | exact ⟨(i + 1, ⟨ng, dn, pt, true, d, b, x⟩), σ.length + 2, ⟨by rw [← hq1]; exact (nl3 (by omega) (by omega) (by omega)).symm, by simp only; omega, by simp only; omega, by simp only [ByteArray.size_append]; omega, by simp only; omega, by simp only; omega⟩, by simp only; omega, by simp, ⟨rfl, rfl, rfl, rfl, rfl, rfl, rfl, rfl, rfl, rfl, rfl, trivial⟩, closed_own 2 hcl (by simp [ownLt, AO.cells, AV.ltL, AV.lt]), by simp [ltE, AV.lt], take_own 2⟩ | exact ⟨(i + 1, ⟨true, dn, pt, false, d, b, x⟩), σ.length + 2, ⟨by rw [← hq1]; exact (nl4 (by omega) (by omega)).symm, by simp only; omega, by simp only; omega, by simp only [ByteArray.size_append]; omega, by simp only; omega, by simp only; omega⟩, by simp only; omega, by simp, ⟨rfl, rfl, rfl, rfl, rfl, rfl, rfl, rfl, rfl, rfl, rfl, trivial⟩, closed_own 2 hcl (by simp [ownLt, AO.cells, AV.ltL, AV.lt]), by simp [ltE, AV.lt], take_own 2⟩ | exact ⟨(i + 1, ⟨ng, dn, true, false, d, b, x⟩), σ.length + 2, ⟨by rw [← hq1]; exact (nl5 (by omega) (by omega)).symm, by simp only; omega, by simp only; omega, by simp only [ByteArray.size_append]; omega, by simp only; omega, by simp only; omega⟩, by simp only; omega, by simp, ⟨rfl, rfl, rfl, rfl, rfl, rfl, rfl, rfl, rfl, rfl, rfl, trivial⟩, closed_own 2 hcl (by simp [ownLt, AO.cells, AV.ltL, AV.lt]), by simp [ltE, AV.lt], take_own 2⟩ | exact ⟨(i + 1, ⟨ng, dn, pt, true, d, b, x⟩), σ.length + 2, ⟨by rw [← hq1]; exact (nl6 (by omega) (by omega)).symm, by simp only; omega, by simp only; omega, by simp only [ByteArray.size_append]; omega, by simp only; omega, by simp only; omega⟩, by simp only; omega, by simp, ⟨rfl, rfl, rfl, rfl, rfl, rfl, rfl, rfl, rfl, rfl, rfl, trivial⟩, closed_own 2 hcl (by simp [ownLt, AO.cells, AV.ltL, AV.lt]), by simp [ltE, AV.lt], take_own 2⟩ | exact ⟨(i + 1, ⟨ng, dn, true, false, d ++ ⟨#[u8b ((bat s i).toNat : Int)]⟩, b + 1, x⟩), σ.length + 2, ⟨by rw [← hq1]; exact (nl7 (by omega) (by omega) (by omega) (by omega)).symm, by simp only; omega, by simp only; omega, by simp only [ByteArray.size_append]; omega, by simp only; omega, by simp only; omega⟩, by simp only; omega, by simp, ⟨rfl, rfl, rfl, rfl, rfl, rfl, rfl, rfl, rfl, rfl, rfl, trivial⟩, closed_own 2 hcl (by simp [ownLt, AO.cells, AV.ltL, AV.lt]), by simp [ltE, AV.lt], take_own 2⟩ | exact ⟨(i + 1, ⟨ng, dn, false, false, d ++ ⟨#[u8b ((bat s i).toNat : Int)]⟩, b, x⟩), σ.length + 2, ⟨by rw [← hq1]; exact (nl8 (by omega) (by omega) (by omega) (by omega)).symm, by simp only; omega, by simp only; omega, by simp only [ByteArray.size_append]; omega, by simp only; omega, by simp only; omega⟩, by simp only; omega, by simp, ⟨rfl, rfl, rfl, rfl, rfl, rfl, rfl, rfl, rfl, rfl, rfl, trivial⟩, closed_own 2 hcl (by simp [ownLt, AO.cells, AV.ltL, AV.lt]), by simp [ltE, AV.lt], take_own 2⟩
       ·(try rw [h9]); (try simp only [decide_eq_true_eq, decide_eq_false_iff_not, Bool.not_eq_true', Bool.not_eq_false', Int.not_lt, Int.not_le, Bool.not_true, Bool.not_false, Int.toNat_natCast, tn1, tn2, tm1, tnn, bne_iff_ne, beq_iff_eq, beq_eq_false_iff_ne, ne_eq, Decidable.not_not] at h9)
        refine AWp_skip ?_
        refine AWp_regL ?_
        refine zv3 ?_
        first | (exfalso; omega; done) | exact ⟨(i + 1, ⟨ng, true, pt, true, d, b, x⟩), σ.length + 2, ⟨by rw [← hq1]; exact (nl1 (by omega) (by omega)).symm, by simp only; omega, by simp only; omega, by simp only [ByteArray.size_append]; omega, by simp only; omega, by simp only; omega⟩, by simp only; omega, by simp, ⟨rfl, rfl, rfl, rfl, rfl, rfl, rfl, rfl, rfl, rfl, rfl, trivial⟩, closed_own 2 hcl (by simp [ownLt, AO.cells, AV.ltL, AV.lt]), by simp [ltE, AV.lt], take_own 2⟩ | exact ⟨(i + 1, ⟨ng, dn, pt, true, d, b, min (10 * x + (bat s i).toNat - 48) 1000000⟩), σ.length + 2, ⟨by rw [← hq1]; exact (nl2 (by omega) (by omega)).symm, by simp only; omega, by simp only; omega, by simp only [ByteArray.size_append]; omega, by simp only; omega, by simp only; omega⟩, by simp only; omega, by simp, ⟨rfl, rfl, rfl, rfl, rfl, rfl, rfl, rfl, rfl, rfl, rfl, trivial⟩, closed_own 2 hcl (by simp [ownLt, AO.cells, AV.ltL, AV.lt]), by simp [ltE, AV.lt], take_own 2⟩ | exact ⟨(i + 1, ⟨ng, dn, pt, true, d, b, x⟩), σ.length + 2, ⟨by rw [← hq1]; exact (nl3 (by omega) (by omega) (by omega)).symm, by simp only; omega, by simp only; omega, by simp only [ByteArray.size_append]; omega, by simp only; omega, by simp only; omega⟩, by simp only; omega, by simp, ⟨rfl, rfl, rfl, rfl, rfl, rfl, rfl, rfl, rfl, rfl, rfl, trivial⟩, closed_own 2 hcl (by simp [ownLt, AO.cells, AV.ltL, AV.lt]), by simp [ltE, AV.lt], take_own 2⟩ | exact ⟨(i + 1, ⟨true, dn, pt, false, d, b, x⟩), σ.length + 2, ⟨by rw [← hq1]; exact (nl4 (by omega) (by omega)).symm, by simp only; omega, by simp only; omega, by simp only [ByteArray.size_append]; omega, by simp only; omega, by simp only; omega⟩, by simp only; omega, by simp, ⟨rfl, rfl, rfl, rfl, rfl, rfl, rfl, rfl, rfl, rfl, rfl, trivial⟩, closed_own 2 hcl (by simp [ownLt, AO.cells, AV.ltL, AV.lt]), by simp [ltE, AV.lt], take_own 2⟩ | exact ⟨(i + 1, ⟨ng, dn, true, false, d, b, x⟩), σ.length + 2, ⟨by rw [← hq1]; exact (nl5 (by omega) (by omega)).symm, by simp only; omega, by simp only; omega, by simp only [ByteArray.size_append]; omega, by simp only; omega, by simp only; omega⟩, by simp only; omega, by simp, ⟨rfl, rfl, rfl, rfl, rfl, rfl, rfl, rfl, rfl, rfl, rfl, trivial⟩, closed_own 2 hcl (by simp [ownLt, AO.cells, AV.ltL, AV.lt]), by simp [ltE, AV.lt], take_own 2⟩ | exact ⟨(i + 1, ⟨ng, dn, pt, true, d, b, x⟩), σ.length + 2, ⟨by rw [← hq1]; exact (nl6 (by omega) (by omega)).symm, by simp only; omega, by simp only; omega, by simp only [ByteArray.size_append]; omega, by simp only; omega, by simp only; omega⟩, by simp only; omega, by simp, ⟨rfl, rfl, rfl, rfl, rfl, rfl, rfl, rfl, rfl, rfl, rfl, trivial⟩, closed_own 2 hcl (by simp [ownLt, AO.cells, AV.ltL, AV.lt]), by simp [ltE, AV.lt], take_own 2⟩ | exact ⟨(i + 1, ⟨ng, dn, true, false, d ++ ⟨#[u8b ((bat s i).toNat : Int)]⟩, b + 1, x⟩), σ.length + 2, ⟨by rw [← hq1]; exact (nl7 (by omega) (by omega) (by omega) (by omega)).symm, by simp only; omega, by simp only; omega, by simp only [ByteArray.size_append]; omega, by simp only; omega, by simp only; omega⟩, by simp only; omega, by simp, ⟨rfl, rfl, rfl, rfl, rfl, rfl, rfl, rfl, rfl, rfl, rfl, trivial⟩, closed_own 2 hcl (by simp [ownLt, AO.cells, AV.ltL, AV.lt]), by simp [ltE, AV.lt], take_own 2⟩ | exact ⟨(i + 1, ⟨ng, dn, false, false, d ++ ⟨#[u8b ((bat s i).toNat : Int)]⟩, b, x⟩), σ.length + 2, ⟨by rw [← hq1]; exact (nl8 (by omega) (by omega) (by omega) (by omega)).symm, by simp only; omega, by simp only; omega, by simp only [ByteArray.size_append]; omega, by simp only; omega, by simp only; omega⟩, by simp only; omega, by simp, ⟨rfl, rfl, rfl, rfl, rfl, rfl, rfl, rfl, rfl, rfl, rfl, trivial⟩, closed_own 2 hcl (by simp [ownLt, AO.cells, AV.ltL, AV.lt]), by simp [ltE, AV.lt], take_own 2⟩
      ·rw [h8]; (try simp only [decide_eq_true_eq, decide_eq_false_iff_not, Bool.not_eq_true', Bool.not_eq_false', Int.not_lt, Int.not_le, Bool.not_true, Bool.not_false, Int.toNat_natCast, tn1, tn2, tm1, tnn, bne_iff_ne, beq_iff_eq, beq_eq_false_iff_ne, ne_eq, Decidable.not_not] at h8)
       refine zv3 ?_
       refine AWp_condF rfl ?_
       refine AWp_skip ?_
       refine AWp_regL ?_
       refine zv3 ?_
       first | (exfalso; omega; done) | exact ⟨(i + 1, ⟨ng, true, pt, true, d, b, x⟩), σ.length + 2, ⟨by rw [← hq1]; exact (nl1 (by omega) (by omega)).symm, by simp only; omega, by simp only; omega, by simp only [ByteArray.size_append]; omega, by simp only; omega, by simp only; omega⟩, by simp only; omega, by simp, ⟨rfl, rfl, rfl, rfl, rfl, rfl, rfl, rfl, rfl, rfl, rfl, trivial⟩, closed_own 2 hcl (by simp [ownLt, AO.cells, AV.ltL, AV.lt]), by simp [ltE, AV.lt], take_own 2⟩ | exact ⟨(i + 1, ⟨ng, dn, pt, true, d, b, min (10 * x + (bat s i).toNat - 48) 1000000⟩), σ.length + 2, ⟨by rw [← hq1]; exact (nl2 (by omega) (by omega)).symm, by simp only; omega, by simp only; omega, by simp only [ByteArray.size_append]; omega, by simp only; omega, by simp only; omega⟩, by simp only; omega, by simp, ⟨rfl, rfl, rfl, rfl, rfl, rfl, rfl, rfl, rfl, rfl, rfl, trivial⟩, closed_own 2 hcl (by simp [ownLt, AO.cells, AV.ltL, AV.lt]), by simp [ltE, AV.lt], take_own 2⟩ | exact ⟨(i + 1, ⟨ng, dn, pt, true, d, b, x⟩), σ.length + 2, ⟨by rw [← hq1]; exact (nl3 (by omega) (by omega) (by omega)).symm, by simp only; omega, by simp only; omega, by simp only [ByteArray.size_append]; omega, by simp only; omega, by simp only; omega⟩, by simp only; omega, by simp, ⟨rfl, rfl, rfl, rfl, rfl, rfl, rfl, rfl, rfl, rfl, rfl, trivial⟩, closed_own 2 hcl (by simp [ownLt, AO.cells, AV.ltL, AV.lt]), by simp [ltE, AV.lt], take_own 2⟩ | exact ⟨(i + 1, ⟨true, dn, pt, false, d, b, x⟩), σ.length + 2, ⟨by rw [← hq1]; exact (nl4 (by omega) (by omega)).symm, by simp only; omega, by simp only; omega, by simp only [ByteArray.size_append]; omega, by simp only; omega, by simp only; omega⟩, by simp only; omega, by simp, ⟨rfl, rfl, rfl, rfl, rfl, rfl, rfl, rfl, rfl, rfl, rfl, trivial⟩, closed_own 2 hcl (by simp [ownLt, AO.cells, AV.ltL, AV.lt]), by simp [ltE, AV.lt], take_own 2⟩ | exact ⟨(i + 1, ⟨ng, dn, true, false, d, b, x⟩), σ.length + 2, ⟨by rw [← hq1]; exact (nl5 (by omega) (by omega)).symm, by simp only; omega, by simp only; omega, by simp only [ByteArray.size_append]; omega, by simp only; omega, by simp only; omega⟩, by simp only; omega, by simp, ⟨rfl, rfl, rfl, rfl, rfl, rfl, rfl, rfl, rfl, rfl, rfl, trivial⟩, closed_own 2 hcl (by simp [ownLt, AO.cells, AV.ltL, AV.lt]), by simp [ltE, AV.lt], take_own 2⟩ | exact ⟨(i + 1, ⟨ng, dn, pt, true, d, b, x⟩), σ.length + 2, ⟨by rw [← hq1]; exact (nl6 (by omega) (by omega)).symm, by simp only; omega, by simp only; omega, by simp only [ByteArray.size_append]; omega, by simp only; omega, by simp only; omega⟩, by simp only; omega, by simp, ⟨rfl, rfl, rfl, rfl, rfl, rfl, rfl, rfl, rfl, rfl, rfl, trivial⟩, closed_own 2 hcl (by simp [ownLt, AO.cells, AV.ltL, AV.lt]), by simp [ltE, AV.lt], take_own 2⟩ | exact ⟨(i + 1, ⟨ng, dn, true, false, d ++ ⟨#[u8b ((bat s i).toNat : Int)]⟩, b + 1, x⟩), σ.length + 2, ⟨by rw [← hq1]; exact (nl7 (by omega) (by omega) (by omega) (by omega)).symm, by simp only; omega, by simp only; omega, by simp only [ByteArray.size_append]; omega, by simp only; omega, by simp only; omega⟩, by simp only; omega, by simp, ⟨rfl, rfl, rfl, rfl, rfl, rfl, rfl, rfl, rfl, rfl, rfl, trivial⟩, closed_own 2 hcl (by simp [ownLt, AO.cells, AV.ltL, AV.lt]), by simp [ltE, AV.lt], take_own 2⟩ | exact ⟨(i + 1, ⟨ng, dn, false, false, d ++ ⟨#[u8b ((bat s i).toNat : Int)]⟩, b, x⟩), σ.length + 2, ⟨by rw [← hq1]; exact (nl8 (by omega) (by omega) (by omega) (by omega)).symm, by simp only; omega, by simp only; omega, by simp only [ByteArray.size_append]; omega, by simp only; omega, by simp only; omega⟩, by simp only; omega, by simp, ⟨rfl, rfl, rfl, rfl, rfl, rfl, rfl, rfl, rfl, rfl, rfl, trivial⟩, closed_own 2 hcl (by simp [ownLt, AO.cells, AV.ltL, AV.lt]), by simp [ltE, AV.lt], take_own 2⟩
    ·(try rw [h4]); (try simp only [decide_eq_true_eq, decide_eq_false_iff_not, Bool.not_eq_true', Bool.not_eq_false', Int.not_lt, Int.not_le, Bool.not_true, Bool.not_false, Int.toNat_natCast, tn1, tn2, tm1, tnn, bne_iff_ne, beq_iff_eq, beq_eq_false_iff_ne, ne_eq, Decidable.not_not] at h4)
     subst h4
     refine zw2 ?_
     refine AWp_cond rfl (fun h10 => ?_) (fun h10 => ?_)
     ·(try rw [h10]); (try simp only [decide_eq_true_eq, decide_eq_false_iff_not, Bool.not_eq_true', Bool.not_eq_false', Int.not_lt, Int.not_le, Bool.not_true, Bool.not_false, Int.toNat_natCast, tn1, tn2, tm1, tnn, bne_iff_ne, beq_iff_eq, beq_eq_false_iff_ne, ne_eq, Decidable.not_not] at h10)
      refine AWp_regL ?_
      refine zg1 ?_
      refine ztN rfl rfl (op_storeO (r := [.bool true, .str e0, .int .i64 0]) rfl Tryz.sizeOf4 rfl rfl rfl rfl rfl (by decide)) ?_
      refine zon ?_
      refine AWp_regL ?_
      refine zv3 ?_
      first | (exfalso; omega; done) | exact ⟨(i + 1, ⟨ng, true, pt, true, d, b, x⟩), σ.length + 2, ⟨by rw [← hq1]; exact (nl1 (by omega) (by omega)).symm, by simp only; omega, by simp only; omega, by simp only [ByteArray.size_append]; omega, by simp only; omega, by simp only; omega⟩, by simp only; omega, by simp, ⟨rfl, rfl, rfl, rfl, rfl, rfl, rfl, rfl, rfl, rfl, rfl, trivial⟩, closed_own 2 hcl (by simp [ownLt, AO.cells, AV.ltL, AV.lt]), by simp [ltE, AV.lt], take_own 2⟩ | exact ⟨(i + 1, ⟨ng, dn, pt, true, d, b, min (10 * x + (bat s i).toNat - 48) 1000000⟩), σ.length + 2, ⟨by rw [← hq1]; exact (nl2 (by omega) (by omega)).symm, by simp only; omega, by simp only; omega, by simp only [ByteArray.size_append]; omega, by simp only; omega, by simp only; omega⟩, by simp only; omega, by simp, ⟨rfl, rfl, rfl, rfl, rfl, rfl, rfl, rfl, rfl, rfl, rfl, trivial⟩, closed_own 2 hcl (by simp [ownLt, AO.cells, AV.ltL, AV.lt]), by simp [ltE, AV.lt], take_own 2⟩ | exact ⟨(i + 1, ⟨ng, dn, pt, true, d, b, x⟩), σ.length + 2, ⟨by rw [← hq1]; exact (nl3 (by omega) (by omega) (by omega)).symm, by simp only; omega, by simp only; omega, by simp only [ByteArray.size_append]; omega, by simp only; omega, by simp only; omega⟩, by simp only; omega, by simp, ⟨rfl, rfl, rfl, rfl, rfl, rfl, rfl, rfl, rfl, rfl, rfl, trivial⟩, closed_own 2 hcl (by simp [ownLt, AO.cells, AV.ltL, AV.lt]), by simp [ltE, AV.lt], take_own 2⟩ | exact ⟨(i + 1, ⟨true, dn, pt, false, d, b, x⟩), σ.length + 2, ⟨by rw [← hq1]; exact (nl4 (by omega) (by omega)).symm, by simp only; omega, by simp only; omega, by simp only [ByteArray.size_append]; omega, by simp only; omega, by simp only; omega⟩, by simp only; omega, by simp, ⟨rfl, rfl, rfl, rfl, rfl, rfl, rfl, rfl, rfl, rfl, rfl, trivial⟩, closed_own 2 hcl (by simp [ownLt, AO.cells, AV.ltL, AV.lt]), by simp [ltE, AV.lt], take_own 2⟩ | exact ⟨(i + 1, ⟨ng, dn, true, false, d, b, x⟩), σ.length + 2, ⟨by rw [← hq1]; exact (nl5 (by omega) (by omega)).symm, by simp only; omega, by simp only; omega, by simp only [ByteArray.size_append]; omega, by simp only; omega, by simp only; omega⟩, by simp only; omega, by simp, ⟨rfl, rfl, rfl, rfl, rfl, rfl, rfl, rfl, rfl, rfl, rfl, trivial⟩, closed_own 2 hcl (by simp [ownLt, AO.cells, AV.ltL, AV.lt]), by simp [ltE, AV.lt], take_own 2⟩ | exact ⟨(i + 1, ⟨ng, dn, pt, true, d, b, x⟩), σ.length + 2, ⟨by rw [← hq1]; exact (nl6 (by omega) (by omega)).symm, by simp only; omega, by simp only; omega, by simp only [ByteArray.size_append]; omega, by simp only; omega, by simp only; omega⟩, by simp only; omega, by simp, ⟨rfl, rfl, rfl, rfl, rfl, rfl, rfl, rfl, rfl, rfl, rfl, trivial⟩, closed_own 2 hcl (by simp [ownLt, AO.cells, AV.ltL, AV.lt]), by simp [ltE, AV.lt], take_own 2⟩ | exact ⟨(i + 1, ⟨ng, dn, true, false, d ++ ⟨#[u8b ((bat s i).toNat : Int)]⟩, b + 1, x⟩), σ.length + 2, ⟨by rw [← hq1]; exact (nl7 (by omega) (by omega) (by omega) (by omega)).symm, by simp only; omega, by simp only; omega, by simp only [ByteArray.size_append]; omega, by simp only; omega, by simp only; omega⟩, by simp only; omega, by simp, ⟨rfl, rfl, rfl, rfl, rfl, rfl, rfl, rfl, rfl, rfl, rfl, trivial⟩, closed_own 2 hcl (by simp [ownLt, AO.cells, AV.ltL, AV.lt]), by simp [ltE, AV.lt], take_own 2⟩ | exact ⟨(i + 1, ⟨ng, dn, false, false, d ++ ⟨#[u8b ((bat s i).toNat : Int)]⟩, b, x⟩), σ.length + 2, ⟨by rw [← hq1]; exact (nl8 (by omega) (by omega) (by omega) (by omega)).symm, by simp only; omega, by simp only; omega, by simp only [ByteArray.size_append]; omega, by simp only; omega, by simp only; omega⟩, by simp only; omega, by simp, ⟨rfl, rfl, rfl, rfl, rfl, rfl, rfl, rfl, rfl, rfl, rfl, trivial⟩, closed_own 2 hcl (by simp [ownLt, AO.cells, AV.ltL, AV.lt]), by simp [ltE, AV.lt], take_own 2⟩
     ·(try rw [h10]); (try simp only [decide_eq_true_eq, decide_eq_false_iff_not, Bool.not_eq_true', Bool.not_eq_false', Int.not_lt, Int.not_le, Bool.not_true, Bool.not_false, Int.toNat_natCast, tn1, tn2, tm1, tnn, bne_iff_ne, beq_iff_eq, beq_eq_false_iff_ne, ne_eq, Decidable.not_not] at h10)
      refine zw2 ?_
      refine AWp_cond rfl (fun h11 => ?_) (fun h11 => ?_)
      ·(try rw [h11]); (try simp only [decide_eq_true_eq, decide_eq_false_iff_not, Bool.not_eq_true', Bool.not_eq_false', Int.not_lt, Int.not_le, Bool.not_true, Bool.not_false, Int.toNat_natCast, tn1, tn2, tm1, tnn, bne_iff_ne, beq_iff_eq, beq_eq_false_iff_ne, ne_eq, Decidable.not_not] at h11)
       refine AWp_regL ?_
       refine zv1 ?_
       refine AWp_regL ?_
       refine zv3 ?_
       first | (exfalso; omega; done) | exact ⟨(i + 1, ⟨ng, true, pt, true, d, b, x⟩), σ.length + 2, ⟨by rw [← hq1]; exact (nl1 (by omega) (by omega)).symm, by simp only; omega, by simp only; omega, by simp only [ByteArray.size_append]; omega, by simp only; omega, by simp only; omega⟩, by simp only; omega, by simp, ⟨rfl, rfl, rfl, rfl, rfl, rfl, rfl, rfl, rfl, rfl, rfl, trivial⟩, closed_own 2 hcl (by simp [ownLt, AO.cells, AV.ltL, AV.lt]), by simp [ltE, AV.lt], take_own 2⟩ | exact ⟨(i + 1, ⟨ng, dn, pt, true, d, b, min (10 * x + (bat s i).toNat - 48) 1000000⟩), σ.length + 2, ⟨by rw [← hq1]; exact (nl2 (by omega) (by omega)).symm, by simp only; omega, by simp only; omega, by simp only [ByteArray.size_append]; omega, by simp only; omega, by simp only; omega⟩, by simp only; omega, by simp, ⟨rfl, rfl, rfl, rfl, rfl, rfl, rfl, rfl, rfl, rfl, rfl, trivial⟩, closed_own 2 hcl (by simp [ownLt, AO.cells, AV.ltL, AV.lt]), by simp [ltE, AV.lt], take_own 2⟩ | exact ⟨(i + 1, ⟨ng, dn, pt, true, d, b, x⟩), σ.length + 2, ⟨by rw [← hq1]; exact (nl3 (by omega) (by omega) (by omega)).symm, by simp only; omega, by simp only; omega, by simp only [ByteArray.size_append]; omega, by simp only; omega, by simp only; omega⟩, by simp only; omega, by simp, ⟨rfl, rfl, rfl, rfl, rfl, rfl, rfl, rfl, rfl, rfl, rfl, trivial⟩, closed_own 2 hcl (by simp [ownLt, AO.cells, AV.ltL, AV.lt]), by simp [ltE, AV.lt], take_own 2⟩ | exact ⟨(i + 1, ⟨true, dn, pt, false, d, b, x⟩), σ.length + 2, ⟨by rw [← hq1]; exact (nl4 (by omega) (by omega)).symm, by simp only; omega, by simp only; omega, by simp only [ByteArray.size_append]; omega, by simp only; omega, by simp only; omega⟩, by simp only; omega, by simp, ⟨rfl, rfl, rfl, rfl, rfl, rfl, rfl, rfl, rfl, rfl, rfl, trivial⟩, closed_own 2 hcl (by simp [ownLt, AO.cells, AV.ltL, AV.lt]), by simp [ltE, AV.lt], take_own 2⟩ | exact ⟨(i + 1, ⟨ng, dn, true, false, d, b, x⟩), σ.length + 2, ⟨by rw [← hq1]; exact (nl5 (by omega) (by omega)).symm, by simp only; omega, by simp only; omega, by simp only [ByteArray.size_append]; omega, by simp only; omega, by simp only; omega⟩, by simp only; omega, by simp, ⟨rfl, rfl, rfl, rfl, rfl, rfl, rfl, rfl, rfl, rfl, rfl, trivial⟩, closed_own 2 hcl (by simp [ownLt, AO.cells, AV.ltL, AV.lt]), by simp [ltE, AV.lt], take_own 2⟩ | exact ⟨(i + 1, ⟨ng, dn, pt, true, d, b, x⟩), σ.length + 2, ⟨by rw [← hq1]; exact (nl6 (by omega) (by omega)).symm, by simp only; omega, by simp only; omega, by simp only [ByteArray.size_append]; omega, by simp only; omega, by simp only; omega⟩, by simp only; omega, by simp, ⟨rfl, rfl, rfl, rfl, rfl, rfl, rfl, rfl, rfl, rfl, rfl, trivial⟩, closed_own 2 hcl (by simp [ownLt, AO.cells, AV.ltL, AV.lt]), by simp [ltE, AV.lt], take_own 2⟩ | exact ⟨(i + 1, ⟨ng, dn, true, false, d ++ ⟨#[u8b ((bat s i).toNat : Int)]⟩, b + 1, x⟩), σ.length + 2, ⟨by rw [← hq1]; exact (nl7 (by omega) (by omega) (by omega) (by omega)).symm, by simp only; omega, by simp only; omega, by simp only [ByteArray.size_append]; omega, by simp only; omega, by simp only; omega⟩, by simp only; omega, by simp, ⟨rfl, rfl, rfl, rfl, rfl, rfl, rfl, rfl, rfl, rfl, rfl, trivial⟩, closed_own 2 hcl (by simp [ownLt, AO.cells, AV.ltL, AV.lt]), by simp [ltE, AV.lt], take_own 2⟩ | exact ⟨(i + 1, ⟨ng, dn, false, false, d ++ ⟨#[u8b ((bat s i).toNat : Int)]⟩, b, x⟩), σ.length + 2, ⟨by rw [← hq1]; exact (nl8 (by omega) (by omega) (by omega) (by omega)).symm, by simp only; omega, by simp only; omega, by simp only [ByteArray.size_append]; omega, by simp only; omega, by simp only; omega⟩, by simp only; omega, by simp, ⟨rfl, rfl, rfl, rfl, rfl, rfl, rfl, rfl, rfl, rfl, rfl, trivial⟩, closed_own 2 hcl (by simp [ownLt, AO.cells, AV.ltL, AV.lt]), by simp [ltE, AV.lt], take_own 2⟩
      ·(try rw [h11]); (try simp only [decide_eq_true_eq, decide_eq_false_iff_not, Bool.not_eq_true', Bool.not_eq_false', Int.not_lt, Int.not_le, Bool.not_true, Bool.not_false, Int.toNat_natCast, tn1, tn2, tm1, tnn, bne_iff_ne, beq_iff_eq, beq_eq_false_iff_ne, ne_eq, Decidable.not_not] at h11)
       refine zu3 ?_
       refine zsp 64 rfl (fun h12 => ?_) fun h12 => ?_
       ·rw [h12]; (try simp only [decide_eq_true_eq, decide_eq_false_iff_not, Bool.not_eq_true', Bool.not_eq_false', Int.not_lt, Int.not_le, Bool.not_true, Bool.not_false, Int.toNat_natCast, tn1, tn2, tm1, tnn, bne_iff_ne, beq_iff_eq, beq_eq_false_iff_ne, ne_eq, Decidable.not_not] at h12)
        refine zv3 ?_
        refine AWp_condT rfl ?_
        refine AWp_regL ?_
        refine zv1 ?_
        refine AWp_regL ?_
        refine zv3 ?_
        first | (exfalso; omega; done) | exact ⟨(i + 1, ⟨ng, true, pt, true, d, b, x⟩), σ.length + 2, ⟨by rw [← hq1]; exact (nl1 (by omega) (by omega)).symm, by simp only; omega, by simp only; omega, by simp only [ByteArray.size_append]; omega, by simp only; omega, by simp only; omega⟩, by simp only; omega, by simp, ⟨rfl, rfl, rfl, rfl, rfl, rfl, rfl, rfl, rfl, rfl, rfl, trivial⟩, closed_own 2 hcl (by simp [ownLt, AO.cells, AV.ltL, AV.lt]), by simp [ltE, AV.lt], take_own 2⟩ | exact ⟨(i + 1, ⟨ng, dn, pt, true, d, b, min (10 * x + (bat s i).toNat - 48) 1000000⟩), σ.length + 2, ⟨by rw [← hq1]; exact (nl2 (by omega) (by omega)).symm, by simp only; omega, by simp only; omega, by simp only [ByteArray.size_append]; omega, by simp only; omega, by simp only; omega⟩, by simp only; omega, by simp, ⟨rfl, rfl, rfl, rfl, rfl, rfl, rfl, rfl, rfl, rfl, rfl, trivial⟩, closed_own 2 hcl (by simp [ownLt, AO.cells, AV.ltL, AV.lt]), by simp [ltE, AV.lt], take_own 2⟩ | exact ⟨(i + 1, ⟨ng, dn, pt, true, d, b, x⟩), σ.length + 2, ⟨by rw [← hq1]; exact (nl3 (by omega) (by omega) (by omega)).symm, by simp only; omega, by simp only; omega, by simp only [ByteArray.size_append]; omega, by simp only; omega, by simp only; omega⟩, by simp only; omega, by simp, ⟨rfl, rfl, rfl, rfl, rfl, rfl, rfl, rfl, rfl, rfl, rfl, trivial⟩, closed_own 2 hcl (by simp [ownLt, AO.cells, AV.ltL, AV.lt]), by simp [ltE, AV.lt], take_own 2⟩ | exact ⟨(i + 1, ⟨true, dn, pt, false, d, b, x⟩), σ.length + 2, ⟨by rw [← hq1]; exact (nl4 (by omega) (by omega)).symm, by simp only; omega, by simp only; omega, by simp only [ByteArray.size_append]; omega, by simp only; omega, by simp only; omega⟩, by simp only; omega, by simp, ⟨rfl, rfl, rfl, rfl, rfl, rfl, rfl, rfl, rfl, rfl, rfl, trivial⟩, closed_own 2 hcl (by simp [ownLt, AO.cells, AV.ltL, AV.lt]), by simp [ltE, AV.lt], take_own 2⟩ | exact ⟨(i + 1, ⟨ng, dn, true, false, d, b, x⟩), σ.length + 2, ⟨by rw [← hq1]; exact (nl5 (by omega) (by omega)).symm, by simp only; omega, by simp only; omega, by simp only [ByteArray.size_append]; omega, by simp only; omega, by simp only; omega⟩, by simp only; omega, by simp, ⟨rfl, rfl, rfl, rfl, rfl, rfl, rfl, rfl, rfl, rfl, rfl, trivial⟩, closed_own 2 hcl (by simp [ownLt, AO.cells, AV.ltL, AV.lt]), by simp [ltE, AV.lt], take_own 2⟩ | exact ⟨(i + 1, ⟨ng, dn, pt, true, d, b, x⟩), σ.length + 2, ⟨by rw [← hq1]; exact (nl6 (by omega) (by omega)).symm, by simp only; omega, by simp only; omega, by simp only [ByteArray.size_append]; omega, by simp only; omega, by simp only; omega⟩, by simp only; omega, by simp, ⟨rfl, rfl, rfl, rfl, rfl, rfl, rfl, rfl, rfl, rfl, rfl, trivial⟩, closed_own 2 hcl (by simp [ownLt, AO.cells, AV.ltL, AV.lt]), by simp [ltE, AV.lt], take_own 2⟩ | exact ⟨(i + 1, ⟨ng, dn, true, false, d ++ ⟨#[u8b ((bat s i).toNat : Int)]⟩, b + 1, x⟩), σ.length + 2, ⟨by rw [← hq1]; exact (nl7 (by omega) (by omega) (by omega) (by omega)).symm, by simp only; omega, by simp only; omega, by simp only [ByteArray.size_append]; omega, by simp only; omega, by simp only; omega⟩, by simp only; omega, by simp, ⟨rfl, rfl, rfl, rfl, rfl, rfl, rfl, rfl, rfl, rfl, rfl, trivial⟩, closed_own 2 hcl (by simp [ownLt, AO.cells, AV.ltL, AV.lt]), by simp [ltE, AV.lt], take_own 2⟩ | exact ⟨(i + 1, ⟨ng, dn, false, false, d ++ ⟨#[u8b ((bat s i).toNat : Int)]⟩, b, x⟩), σ.length + 2, ⟨by rw [← hq1]; exact (nl8 (by omega) (by omega) (by omega) (by omega)).symm, by simp only; omega, by simp only; omega, by simp only [ByteArray.size_append]; omega, by simp only; omega, by simp only; omega⟩, by simp only; omega, by simp, ⟨rfl, rfl, rfl, rfl, rfl, rfl, rfl, rfl, rfl, rfl, rfl, trivial⟩, closed_own 2 hcl (by simp [ownLt, AO.cells, AV.ltL, AV.lt]), by simp [ltE, AV.lt], take_own 2⟩
       ·rw [h12]; (try simp only [decide_eq_true_eq, decide_eq_false_iff_not, Bool.not_eq_true', Bool.not_eq_false', Int.not_lt, Int.not_le, Bool.not_true, Bool.not_false, Int.toNat_natCast, tn1, tn2, tm1, tnn, bne_iff_ne, beq_iff_eq, beq_eq_false_iff_ne, ne_eq, Decidable.not_not] at h12)
        refine zv3 ?_
        refine AWp_cond rfl (fun h13 => ?_) (fun h13 => ?_)
        ·(try rw [h13]); (try simp only [decide_eq_true_eq, decide_eq_false_iff_not, Bool.not_eq_true', Bool.not_eq_false', Int.not_lt, Int.not_le, Bool.not_true, Bool.not_false, Int.toNat_natCast, tn1, tn2, tm1, tnn, bne_iff_ne, beq_iff_eq, beq_eq_false_iff_ne, ne_eq, Decidable.not_not] at h13)
         refine AWp_regL ?_
         refine zv1 ?_
         refine AWp_regL ?_
         refine zv3 ?_
         first | (exfalso; omega; done) | exact ⟨(i + 1, ⟨ng, true, pt, true, d, b, x⟩), σ.length + 2, ⟨by rw [← hq1]; exact (nl1 (by omega) (by omega)).symm, by simp only; omega, by simp only; omega, by simp only [ByteArray.size_append]; omega, by simp only; omega, by simp only; omega⟩, by simp only; omega, by simp, ⟨rfl, rfl, rfl, rfl, rfl, rfl, rfl, rfl, rfl, rfl, rfl, trivial⟩, closed_own 2 hcl (by simp [ownLt, AO.cells, AV.ltL, AV.lt]), by simp [ltE, AV.lt], take_own 2⟩ | exact ⟨(i + 1, ⟨ng, dn, pt, true, d, b, min (10 * x + (bat s i).toNat - 48) 1000000⟩), σ.length + 2, ⟨by rw [← hq1]; exact (nl2 (by omega) (by omega)).symm, by simp only; omega, by simp only; omega, by simp only [ByteArray.size_append]; omega, by simp only; omega, by simp only; omega⟩, by simp only; omega, by simp, ⟨rfl, rfl, rfl, rfl, rfl, rfl, rfl, rfl, rfl, rfl, rfl, trivial⟩, closed_own 2 hcl (by simp [ownLt, AO.cells, AV.ltL, AV.lt]), by simp [ltE, AV.lt], take_own 2⟩ | exact ⟨(i + 1, ⟨ng, dn, pt, true, d, b, x⟩), σ.length + 2, ⟨by rw [← hq1]; exact (nl3 (by omega) (by omega) (by omega)).symm, by simp only; omega, by simp only; omega, by simp only [ByteArray.size_append]; omega, by simp only; omega, by simp only; omega⟩, by simp only; omega, by simp, ⟨rfl, rfl, rfl, rfl, rfl, rfl, rfl, rfl, rfl, rfl, rfl, trivial⟩, closed_own 2 hcl (by simp [ownLt, AO.cells, AV.ltL, AV.lt]), by simp [ltE, AV.lt], take_own 2⟩ | exact ⟨(i + 1, ⟨true, dn, pt, false, d, b, x⟩), σ.length + 2, ⟨by rw [← hq1]; exact (nl4 (by omega) (by omega)).symm, by simp only; omega, by simp only; omega, by simp only [ByteArray.size_append]; omega, by simp only; omega, by simp only; omega⟩, by simp only; omega, by simp, ⟨rfl, rfl, rfl, rfl, rfl, rfl, rfl, rfl, rfl, rfl, rfl, trivial⟩, closed_own 2 hcl (by simp [ownLt, AO.cells, AV.ltL, AV.lt]), by simp [ltE, AV.lt], take_own 2⟩ | exact ⟨(i + 1, ⟨ng, dn, true, false, d, b, x⟩), σ.length + 2, ⟨by rw [← hq1]; exact (nl5 (by omega) (by omega)).symm, by simp only; omega, by simp only; omega, by simp only [ByteArray.size_append]; omega, by simp only; omega, by simp only; omega⟩, by simp only; omega, by simp, ⟨rfl, rfl, rfl, rfl, rfl, rfl, rfl, rfl, rfl, rfl, rfl, trivial⟩, closed_own 2 hcl (by simp [ownLt, AO.cells, AV.ltL, AV.lt]), by simp [ltE, AV.lt], take_own 2⟩ | exact ⟨(i + 1, ⟨ng, dn, pt, true, d, b, x⟩), σ.length + 2, ⟨by rw [← hq1]; exact (nl6 (by omega) (by omega)).symm, by simp only; omega, by simp only; omega, by simp only [ByteArray.size_append]; omega, by simp only; omega, by simp only; omega⟩, by simp only; omega, by simp, ⟨rfl, rfl, rfl, rfl, rfl, rfl, rfl, rfl, rfl, rfl, rfl, trivial⟩, closed_own 2 hcl (by simp [ownLt, AO.cells, AV.ltL, AV.lt]), by simp [ltE, AV.lt], take_own 2⟩ | exact ⟨(i + 1, ⟨ng, dn, true, false, d ++ ⟨#[u8b ((bat s i).toNat : Int)]⟩, b + 1, x⟩), σ.length + 2, ⟨by rw [← hq1]; exact (nl7 (by omega) (by omega) (by omega) (by omega)).symm, by simp only; omega, by simp only; omega, by simp only [ByteArray.size_append]; omega, by simp only; omega, by simp only; omega⟩, by simp only; omega, by simp, ⟨rfl, rfl, rfl, rfl, rfl, rfl, rfl, rfl, rfl, rfl, rfl, trivial⟩, closed_own 2 hcl (by simp [ownLt, AO.cells, AV.ltL, AV.lt]), by simp [ltE, AV.lt], take_own 2⟩ | exact ⟨(i + 1, ⟨ng, dn, false, false, d ++ ⟨#[u8b ((bat s i).toNat : Int)]⟩, b, x⟩), σ.length + 2, ⟨by rw [← hq1]; exact (nl8 (by omega) (by omega) (by omega) (by omega)).symm, by simp only; omega, by simp only; omega, by simp only [ByteArray.size_append]; omega, by simp only; omega, by simp only; omega⟩, by simp only; omega, by simp, ⟨rfl, rfl, rfl, rfl, rfl, rfl, rfl, rfl, rfl, rfl, rfl, trivial⟩, closed_own 2 hcl (by simp [ownLt, AO.cells, AV.ltL, AV.lt]), by simp [ltE, AV.lt], take_own 2⟩
        ·(try rw [h13]); (try simp only [decide_eq_true_eq, decide_eq_false_iff_not, Bool.not_eq_true', Bool.not_eq_false', Int.not_lt, Int.not_le, Bool.not_true, Bool.not_false, Int.toNat_natCast, tn1, tn2, tm1, tnn, bne_iff_ne, beq_iff_eq, beq_eq_false_iff_ne, ne_eq, Decidable.not_not] at h13)
         refine zu2 ?_
         refine zt rfl (op_buildSlice [[_]] rfl Tryz.underlying102 Tryz.sizeOf5 Tryz.zeroValue5 rfl (by decide) (by decide) rfl rfl rfl rfl rfl) ?_
         refine zt rfl (op_bytesStr (b := _) (m := 1) rfl Tryz.underlying102 Tryz.underlying5 Tryz.underlying9 (bs1 ⟨by omega, by omega⟩) rfl rfl) ?_
         refine zv2 ?_
         refine zw1 ?_
         refine AWp_cond rfl (fun h14 => ?_) (fun h14 => ?_)
         ·(try rw [h14]); (try simp only [decide_eq_true_eq, decide_eq_false_iff_not, Bool.not_eq_true', Bool.not_eq_false', Int.not_lt, Int.not_le, Bool.not_true, Bool.not_false, Int.toNat_natCast, tn1, tn2, tm1, tnn, bne_iff_ne, beq_iff_eq, beq_eq_false_iff_ne, ne_eq, Decidable.not_not] at h14)
          subst h14
          refine AWp_regL ?_
          refine zv3 ?_
          refine AWp_regL ?_
          refine zv3 ?_
          first | (exfalso; omega; done) | exact ⟨(i + 1, ⟨ng, true, pt, true, d, b, x⟩), σ.length + 2, ⟨by rw [← hq1]; exact (nl1 (by omega) (by omega)).symm, by simp only; omega, by simp only; omega, by simp only [ByteArray.size_append]; omega, by simp only; omega, by simp only; omega⟩, by simp only; omega, by simp, ⟨rfl, rfl, rfl, rfl, rfl, rfl, rfl, rfl, rfl, rfl, rfl, trivial⟩, closed_own 2 hcl (by simp [ownLt, AO.cells, AV.ltL, AV.lt]), by simp [ltE, AV.lt], take_own 2⟩ | exact ⟨(i + 1, ⟨ng, dn, pt, true, d, b, min (10 * x + (bat s i).toNat - 48) 1000000⟩), σ.length + 2, ⟨by rw [← hq1]; exact (nl2 (by omega) (by omega)).symm, by simp only; omega, by simp only; omega, by simp only [ByteArray.size_append]; omega, by simp only; omega, by simp only; omega⟩, by simp only; omega, by simp, ⟨rfl, rfl, rfl, rfl, rfl, rfl, rfl, rfl, rfl, rfl, rfl, trivial⟩, closed_own 2 hcl (by simp [ownLt, AO.cells, AV.ltL, AV.lt]), by simp [ltE, AV.lt], take_own 2⟩ | exact ⟨(i + 1, ⟨ng, dn, pt, true, d, b, x⟩), σ.length + 2, ⟨by rw [← hq1]; exact (nl3 (by omega) (by omega) (by omega)).symm, by simp only; omega, by simp only; omega, by simp only [ByteArray.size_append]; omega, by simp only; omega, by simp only; omega⟩, by simp only; omega, by simp, ⟨rfl, rfl, rfl, rfl, rfl, rfl, rfl, rfl, rfl, rfl, rfl, trivial⟩, closed_own 2 hcl (by simp [ownLt, AO.cells, AV.ltL, AV.lt]), by simp [ltE, AV.lt], take_own 2⟩ | exact ⟨(i + 1, ⟨true, dn, pt, false, d, b, x⟩), σ.length + 2, ⟨by rw [← hq1]; exact (nl4 (by omega) (by omega)).symm, by simp only; omega, by simp only; omega, by simp only [ByteArray.size_append]; omega, by simp only; omega, by simp only; omega⟩, by simp only; omega, by simp, ⟨rfl, rfl, rfl, rfl, rfl, rfl, rfl, rfl, rfl, rfl, rfl, trivial⟩, closed_own 2 hcl (by simp [ownLt, AO.cells, AV.ltL, AV.lt]), by simp [ltE, AV.lt], take_own 2⟩ | exact ⟨(i + 1, ⟨ng, dn, true, false, d, b, x⟩), σ.length + 2, ⟨by rw [← hq1]; exact (nl5 (by omega) (by omega)).symm, by simp only; omega, by simp only; omega, by simp only [ByteArray.size_append]; omega, by simp only; omega, by simp only; omega⟩, by simp only; omega, by simp, ⟨rfl, rfl, rfl, rfl, rfl, rfl, rfl, rfl, rfl, rfl, rfl, trivial⟩, closed_own 2 hcl (by simp [ownLt, AO.cells, AV.ltL, AV.lt]), by simp [ltE, AV.lt], take_own 2⟩ | exact ⟨(i + 1, ⟨ng, dn, pt, true, d, b, x⟩), σ.length + 2, ⟨by rw [← hq1]; exact (nl6 (by omega) (by omega)).symm, by simp only; omega, by simp only; omega, by simp only [ByteArray.size_append]; omega, by simp only; omega, by simp only; omega⟩, by simp only; omega, by simp, ⟨rfl, rfl, rfl, rfl, rfl, rfl, rfl, rfl, rfl, rfl, rfl, trivial⟩, closed_own 2 hcl (by simp [ownLt, AO.cells, AV.ltL, AV.lt]), by simp [ltE, AV.lt], take_own 2⟩ | exact ⟨(i + 1, ⟨ng, dn, true, false, d ++ ⟨#[u8b ((bat s i).toNat : Int)]⟩, b + 1, x⟩), σ.length + 2, ⟨by rw [← hq1]; exact (nl7 (by omega) (by omega) (by omega) (by omega)).symm, by simp only; omega, by simp only; omega, by simp only [ByteArray.size_append]; omega, by simp only; omega, by simp only; omega⟩, by simp only; omega, by simp, ⟨rfl, rfl, rfl, rfl, rfl, rfl, rfl, rfl, rfl, rfl, rfl, trivial⟩, closed_own 2 hcl (by simp [ownLt, AO.cells, AV.ltL, AV.lt]), by simp [ltE, AV.lt], take_own 2⟩ | exact ⟨(i + 1, ⟨ng, dn, false, false, d ++ ⟨#[u8b ((bat s i).toNat : Int)]⟩, b, x⟩), σ.length + 2, ⟨by rw [← hq1]; exact (nl8 (by omega) (by omega) (by omega) (by omega)).symm, by simp only; omega, by simp only; omega, by simp only [ByteArray.size_append]; omega, by simp only; omega, by simp only; omega⟩, by simp only; omega, by simp, ⟨rfl, rfl, rfl, rfl, rfl, rfl, rfl, rfl, rfl, rfl, rfl, trivial⟩, closed_own 2 hcl (by simp [ownLt, AO.cells, AV.ltL, AV.lt]), by simp [ltE, AV.lt], take_own 2⟩
         ·(try rw [h14]); (try simp only [decide_eq_true_eq, decide_eq_false_iff_not, Bool.not_eq_true', Bool.not_eq_false', Int.not_lt, Int.not_le, Bool.not_true, Bool.not_false, Int.toNat_natCast, tn1, tn2, tm1, tnn, bne_iff_ne, beq_iff_eq, beq_eq_false_iff_ne, ne_eq, Decidable.not_not] at h14)
          subst h14
          refine AWp_skip ?_
          refine AWp_regL ?_
          refine zv3 ?_
          first | (exfalso; omega; done) | exact ⟨(i + 1, ⟨ng, true, pt, true, d, b, x⟩), σ.length + 2, ⟨by rw [← hq1]; exact (nl1 (by omega) (by omega)).symm, by simp only; omega, by simp only; omega, by simp only [ByteArray.size_append]; omega, by simp only; omega, by simp only; omega⟩, by simp only; omega, by simp, ⟨rfl, rfl, rfl, rfl, rfl, rfl, rfl, rfl, rfl, rfl, rfl, trivial⟩, closed_own 2 hcl (by simp [ownLt, AO.cells, AV.ltL, AV.lt]), by simp [ltE, AV.lt], take_own 2⟩ | exact ⟨(i + 1, ⟨ng, dn, pt, true, d, b, min (10 * x + (bat s i).toNat - 48) 1000000⟩), σ.length + 2, ⟨by rw [← hq1]; exact (nl2 (by omega) (by omega)).symm, by simp only; omega, by simp only; omega, by simp only [ByteArray.size_append]; omega, by simp only; omega, by simp only; omega⟩, by simp only; omega, by simp, ⟨rfl, rfl, rfl, rfl, rfl, rfl, rfl, rfl, rfl, rfl, rfl, trivial⟩, closed_own 2 hcl (by simp [ownLt, AO.cells, AV.ltL, AV.lt]), by simp [ltE, AV.lt], take_own 2⟩ | exact ⟨(i + 1, ⟨ng, dn, pt, true, d, b, x⟩), σ.length + 2, ⟨by rw [← hq1]; exact (nl3 (by omega) (by omega) (by omega)).symm, by simp only; omega, by simp only; omega, by simp only [ByteArray.size_append]; omega, by simp only; omega, by simp only; omega⟩, by simp only; omega, by simp, ⟨rfl, rfl, rfl, rfl, rfl, rfl, rfl, rfl, rfl, rfl, rfl, trivial⟩, closed_own 2 hcl (by simp [ownLt, AO.cells, AV.ltL, AV.lt]), by simp [ltE, AV.lt], take_own 2⟩ | exact ⟨(i + 1, ⟨true, dn, pt, false, d, b, x⟩), σ.length + 2, ⟨by rw [← hq1]; exact (nl4 (by omega) (by omega)).symm, by simp only; omega, by simp only; omega, by simp only [ByteArray.size_append]; omega, by simp only; omega, by simp only; omega⟩, by simp only; omega, by simp, ⟨rfl, rfl, rfl, rfl, rfl, rfl, rfl, rfl, rfl, rfl, rfl, trivial⟩, closed_own 2 hcl (by simp [ownLt, AO.cells, AV.ltL, AV.lt]), by simp [ltE, AV.lt], take_own 2⟩ | exact ⟨(i + 1, ⟨ng, dn, true, false, d, b, x⟩), σ.length + 2, ⟨by rw [← hq1]; exact (nl5 (by omega) (by omega)).symm, by simp only; omega, by simp only; omega, by simp only [ByteArray.size_append]; omega, by simp only; omega, by simp only; omega⟩, by simp only; omega, by simp, ⟨rfl, rfl, rfl, rfl, rfl, rfl, rfl, rfl, rfl, rfl, rfl, trivial⟩, closed_own 2 hcl (by simp [ownLt, AO.cells, AV.ltL, AV.lt]), by simp [ltE, AV.lt], take_own 2⟩ | exact ⟨(i + 1, ⟨ng, dn, pt, true, d, b, x⟩), σ.length + 2, ⟨by rw [← hq1]; exact (nl6 (by omega) (by omega)).symm, by simp only; omega, by simp only; omega, by simp only [ByteArray.size_append]; omega, by simp only; omega, by simp only; omega⟩, by simp only; omega, by simp, ⟨rfl, rfl, rfl, rfl, rfl, rfl, rfl, rfl, rfl, rfl, rfl, trivial⟩, closed_own 2 hcl (by simp [ownLt, AO.cells, AV.ltL, AV.lt]), by simp [ltE, AV.lt], take_own 2⟩ | exact ⟨(i + 1, ⟨ng, dn, true, false, d ++ ⟨#[u8b ((bat s i).toNat : Int)]⟩, b + 1, x⟩), σ.length + 2, ⟨by rw [← hq1]; exact (nl7 (by omega) (by omega) (by omega) (by omega)).symm, by simp only; omega, by simp only; omega, by simp only [ByteArray.size_append]; omega, by simp only; omega, by simp only; omega⟩, by simp only; omega, by simp, ⟨rfl, rfl, rfl, rfl, rfl, rfl, rfl, rfl, rfl, rfl, rfl, trivial⟩, closed_own 2 hcl (by simp [ownLt, AO.cells, AV.ltL, AV.lt]), by simp [ltE, AV.lt], take_own 2⟩ | exact ⟨(i + 1, ⟨ng, dn, false, false, d ++ ⟨#[u8b ((bat s i).toNat : Int)]⟩, b, x⟩), σ.length + 2, ⟨by rw [← hq1]; exact (nl8 (by omega) (by omega) (by omega) (by omega)).symm, by simp only; omega, by simp only; omega, by simp only [ByteArray.size_append]; omega, by simp only; omega, by simp only; omega⟩, by simp only; omega, by simp, ⟨rfl, rfl, rfl, rfl, rfl, rfl, rfl, rfl, rfl, rfl, rfl, trivial⟩, closed_own 2 hcl (by simp [ownLt, AO.cells, AV.ltL, AV.lt]), by simp [ltE, AV.lt], take_own 2⟩
   ·(try rw [h3]); (try simp only [decide_eq_true_eq, decide_eq_false_iff_not, Bool.not_eq_true', Bool.not_eq_false', Int.not_lt, Int.not_le, Bool.not_true, Bool.not_false, Int.toNat_natCast, tn1, tn2, tm1, tnn, bne_iff_ne, beq_iff_eq, beq_eq_false_iff_ne, ne_eq, Decidable.not_not] at h3)
    have ht : nloop s 0 nst0 = ⟨ng, dn, pt, pw, d, b, x⟩ := by rw [← hq1]; exact nl0 (by omega)
    refine AWp_exit ?_
    refine AWp_join (ι := Int) (fun xx => xx = nsgn ⟨ng, dn, pt, pw, d, b, x⟩ ∧ -1000000 ≤ xx ∧ xx ≤ 1000000) (fun xx => ⟨[], [(2, .ptr (σ.length + 0) 0), (6, .ptr (σ.length + 1) 0), (7, .str d), (8, .int .i64 b), (10, .int .i64 xx)]⟩) (fun xx => σ ++ [.box [.bool false, .str e0, .int .i64 0], .box [.bool ng, .str e0, .int .i64 0]]) ?_ (fun xx hj => ?_)
    ·skip
     refine zw1 ?_
     refine AWp_cond rfl (fun h15 => ?_) (fun h15 => ?_)
     ·(try rw [h15]); (try simp only [decide_eq_true_eq, decide_eq_false_iff_not, Bool.not_eq_true', Bool.not_eq_false', Int.not_lt, Int.not_le, Bool.not_true, Bool.not_false, Int.toNat_natCast, tn1, tn2, tm1, tnn, bne_iff_ne, beq_iff_eq, beq_eq_false_iff_ne, ne_eq, Decidable.not_not] at h15)
      subst h15
      refine AWp_regL ?_
      refine zg1 ?_
      refine zt rfl (op_neg64 rfl rfl (by omega) (by omega)) ?_
      refine zv1 ?_
      first | exact ⟨-x, ⟨by simp [nsgn], by omega, by omega⟩, ⟨rfl, rfl, rfl, rfl, rfl, rfl, trivial⟩, rfl⟩ | exact ⟨x, ⟨by simp [nsgn], by omega, by omega⟩, ⟨rfl, rfl, rfl, rfl, rfl, rfl, trivial⟩, rfl⟩
     ·(try rw [h15]); (try simp only [decide_eq_true_eq, decide_eq_false_iff_not, Bool.not_eq_true', Bool.not_eq_false', Int.not_lt, Int.not_le, Bool.not_true, Bool.not_false, Int.toNat_natCast, tn1, tn2, tm1, tnn, bne_iff_ne, beq_iff_eq, beq_eq_false_iff_ne, ne_eq, Decidable.not_not] at h15)
      subst h15
      refine AWp_skip ?_
      first | exact ⟨-x, ⟨by simp [nsgn], by omega, by omega⟩, ⟨rfl, rfl, rfl, rfl, rfl, rfl, trivial⟩, rfl⟩ | exact ⟨x, ⟨by simp [nsgn], by omega, by omega⟩, ⟨rfl, rfl, rfl, rfl, rfl, rfl, trivial⟩, rfl⟩
    ·skip
     obtain ⟨hx1, hx2, hx3⟩ := hj
     refine zw4 ?_
     refine zw1 ?_
     refine AWp_seq ?_
     refine AWp_block ?_
     -- loop 1 LIVE 2:alloc 3:assign 6:alloc 7:assign 10:assign 15:assign
     refine AWp_loop (ι := Nat) (fun f => fz d f = fz d 0 ∧ f ≤ d.size) (fun f => ⟨[], [(2, .ptr (σ.length + 0) 0), (6, .ptr (σ.length + 1) 0), (7, .str d), (10, .int .i64 (xx - b)), (15, .int .i64 (f : Int))]⟩) (fun f => σ ++ [_, _]) (fun f => d.size - f) (0) (⟨rfl, Nat.zero_le _⟩) ?_ rfl (fun f hf => ?_)
     ·exact ⟨rfl, rfl, rfl, rfl, rfl, rfl, trivial⟩
     obtain ⟨hf1, hf2⟩ := hf
     refine AWp_seq ?_
     refine zu5 ?_
     refine zsp 86 rfl (fun h16 => ?_) fun h16 => ?_
     ·rw [h16]; (try simp only [decide_eq_true_eq, decide_eq_false_iff_not, Bool.not_eq_true', Bool.not_eq_false', Int.not_lt, Int.not_le, Bool.not_true, Bool.not_false, Int.toNat_natCast, tn1, tn2, tm1, tnn, bne_iff_ne, beq_iff_eq, beq_eq_false_iff_ne, ne_eq, Decidable.not_not] at h16)
      refine zv5 ?_
      refine AWp_cond rfl (fun h17 => ?_) (fun h17 => ?_)
      ·(try rw [h17]); (try simp only [decide_eq_true_eq, decide_eq_false_iff_not, Bool.not_eq_true', Bool.not_eq_false', Int.not_lt, Int.not_le, Bool.not_true, Bool.not_false, Int.toNat_natCast, tn1, tn2, tm1, tnn, bne_iff_ne, beq_iff_eq, beq_eq_false_iff_ne, ne_eq, Decidable.not_not] at h17)
       refine AWp_skip ?_
       refine AWp_block ?_
       refine AWp_regL ?_
       refine zv3 ?_
       exact ⟨f + 1, σ.length + 2, ⟨by rw [← hf1]; exact (fz_yes (by omega) (by omega)).symm, by omega⟩, by omega, by simp, ⟨rfl, rfl, rfl, rfl, rfl, rfl, trivial⟩, closed_own 2 hcl (by simp [ownLt, AO.cells, AV.ltL, AV.lt]), by simp [ltE, AV.lt], take_own 2⟩
      ·(try rw [h17]); (try simp only [decide_eq_true_eq, decide_eq_false_iff_not, Bool.not_eq_true', Bool.not_eq_false', Int.not_lt, Int.not_le, Bool.not_true, Bool.not_false, Int.toNat_natCast, tn1, tn2, tm1, tnn, bne_iff_ne, beq_iff_eq, beq_eq_false_iff_ne, ne_eq, Decidable.not_not] at h17)
       refine AWp_exit ?_
       refine zw3 ?_
       refine AWp_seq ?_
       refine AWp_block ?_
       -- loop 2 LIVE 2:alloc 3:assign 6:alloc 7:assign 10:assign 15:assign 16:assign
       have hff : fz d 0 = f := by rw [← hf1]; exact fz_no (by omega)
       refine AWp_loop (ι := Nat) (fun l => lz d f l = lz d f d.size ∧ f ≤ l ∧ l ≤ d.size) (fun l => ⟨[], [(2, .ptr (σ.length + 0) 0), (6, .ptr (σ.length + 1) 0), (7, .str d), (10, .int .i64 (xx - b + ((d.size : Int) - l))), (15, .int .i64 (f : Int)), (16, .int .i64 (l : Int))]⟩) (fun l => σ ++ [_, _]) (fun l => l) (d.size) (⟨rfl, hf2, Nat.le_refl _⟩) ?_ rfl (fun l hl => ?_)
       ·refine ⟨rfl, rfl, rfl, rfl, ?_, rfl, rfl, trivial⟩
        rw [Int.sub_self, Int.add_zero]; rfl
       obtain ⟨hl1, hl2, hl3⟩ := hl
       refine AWp_seq ?_
       refine zu4 ?_
       refine zsp 99 rfl (fun h18 => ?_) fun h18 => ?_
       ·rw [h18]; (try simp only [decide_eq_true_eq, decide_eq_false_iff_not, Bool.not_eq_true', Bool.not_eq_false', Int.not_lt, Int.not_le, Bool.not_true, Bool.not_false, Int.toNat_natCast, tn1, tn2, tm1, tnn, bne_iff_ne, beq_iff_eq, beq_eq_false_iff_ne, ne_eq, Decidable.not_not] at h18)
        refine zv6 ?_
        refine AWp_cond rfl (fun h19 => ?_) (fun h19 => ?_)
        ·(try rw [h19]); (try simp only [decide_eq_true_eq, decide_eq_false_iff_not, Bool.not_eq_true', Bool.not_eq_false', Int.not_lt, Int.not_le, Bool.not_true, Bool.not_false, Int.toNat_natCast, tn1, tn2, tm1, tnn, bne_iff_ne, beq_iff_eq, beq_eq_false_iff_ne, ne_eq, Decidable.not_not] at h19)
         refine AWp_skip ?_
         refine AWp_block ?_
         refine zw3 ?_
         refine AWp_regL ?_
         refine zv3 ?_
         refine ⟨l - 1, σ.length + 2, ⟨by rw [← hl1]; exact (lz_yes (by omega) (by omega)).symm, by omega⟩, by omega, by simp, ⟨rfl, rfl, rfl, rfl, ?_, rfl, ?_, trivial⟩, closed_own 2 hcl (by simp [ownLt, AO.cells, AV.ltL, AV.lt]), by simp [ltE, AV.lt], take_own 2⟩
         ·rw [show xx - b + ((d.size : Int) - ((l - 1 : Nat) : Int)) = xx - b + ((d.size : Int) - (l : Int)) + 1 by omega]; rfl
         ·rw [show ((l - 1 : Nat) : Int) = (l : Int) - 1 by omega]; rfl
        ·(try rw [h19]); (try simp only [decide_eq_true_eq, decide_eq_false_iff_not, Bool.not_eq_true', Bool.not_eq_false', Int.not_lt, Int.not_le, Bool.not_true, Bool.not_false, Int.toNat_natCast, tn1, tn2, tm1, tnn, bne_iff_ne, beq_iff_eq, beq_eq_false_iff_ne, ne_eq, Decidable.not_not] at h19)
         refine AWp_exit ?_
         refine AWp_seq ?_
         refine zsr ?_
         have hll : lz d f d.size = l := by rw [← hl1]; exact lz_no (by omega) hl2
         have hxs : (d.extract f l).size ≤ d.size := by rw [ByteArray.size_extract]; omega
         have hnf : nF ⟨ng, dn, pt, pw, d, b, x⟩ = f := hff
         have hnl : nL ⟨ng, dn, pt, pw, d, b, x⟩ = l := by unfold nL; rw [hnf]; exact hll
         have hof : nOf ⟨ng, dn, pt, pw, d, b, x⟩ = ⟨ng, d.extract f l, xx - b + ((d.size : Int) - l)⟩ := by unfold nOf; rw [hnf, hnl, ← hx1]
         refine zv3 ?_
         refine AWp_cond rfl (fun h20 => ?_) (fun h20 => ?_)
         ·(try rw [h20]); (try simp only [decide_eq_true_eq, decide_eq_false_iff_not, Bool.not_eq_true', Bool.not_eq_false', Int.not_lt, Int.not_le, Bool.not_true, Bool.not_false, Int.toNat_natCast, tn1, tn2, tm1, tnn, bne_iff_ne, beq_iff_eq, beq_eq_false_iff_ne, ne_eq, Decidable.not_not] at h20)
          refine zw3 ?_
          refine zrt ?_
          first | (exfalso; omega; done) | (have hE : rNum s = ({}, 0) := by unfold rNum; rw [if_neg (by simp [h1]; omega), ht, if_pos (by rw [hnf, hnl]; omega)]); rw [hE]; exact RQ_ret (rkvs_cons (rkv_ck rfl rfl rfl) (rkvs_cons (rkv_t rfl) rfl)) hcl (by simp [rks, AV.lt, AV.ltL, ofConst1, ncells]) (Ret_of rfl) | (have hE : rNum s = ({}, 5) := by unfold rNum; rw [if_neg (by simp [h1]; omega), ht, if_neg (by rw [hnf, hnl]; omega), if_neg (by rw [hof]; exact (pb_niff _).1 (by assumption))]); rw [hE]; exact RQ_ret (rkvs_cons (rkv_ck rfl rfl rfl) (rkvs_cons (rkv_t rfl) rfl)) hcl (by simp [rks, AV.lt, AV.ltL, ofConst1, ncells]) (Ret_of rfl) | (have hE : rNum s = (⟨ng, d.extract f l, xx - b + ((d.size : Int) - l)⟩, 0) := by unfold rNum; rw [if_neg (by simp [h1]; omega), ht, if_neg (by rw [hnf, hnl]; omega), if_pos (by rw [hof]; exact (pb_iff _).1 (by assumption)), hof]); rw [hE]; exact RQ_ret (rkvs_cons (rkv_ck rfl rfl rfl) (rkvs_cons (rkv_t rfl) rfl)) hcl (by simp [rks, AV.lt, AV.ltL, ofConst1, ncells]) (Ret_of rfl)
         ·(try rw [h20]); (try simp only [decide_eq_true_eq, decide_eq_false_iff_not, Bool.not_eq_true', Bool.not_eq_false', Int.not_lt, Int.not_le, Bool.not_true, Bool.not_false, Int.toNat_natCast, tn1, tn2, tm1, tnn, bne_iff_ne, beq_iff_eq, beq_eq_false_iff_ne, ne_eq, Decidable.not_not] at h20)
          refine AWp_skip ?_
          refine zu4 ?_
          simp only [Int.toNat_natCast]
          refine zg1 ?_
          refine ztN rfl rfl (op_storeO (r := [.bool ng, .str (d.extract f l), .int .i64 0]) rfl Tryz.sizeOf9 rfl rfl rfl rfl rfl (by decide)) ?_
          refine zon ?_
          refine zu2 ?_
          refine ztN rfl rfl (op_storeO (r := [.bool ng, .str (d.extract f l), .int .i64 (xx - b + ((d.size : Int) - l))]) rfl Tryz.sizeOf3 rfl rfl rfl rfl rfl (by decide)) ?_
          refine zon ?_
          refine zu1 ?_
          refine zt rfl (zc rfl (mayNum_c ⟨ng, d.extract f l, xx - b + ((d.size : Int) - l)⟩ _ (by simp only; omega))) ?_
          refine zv1 ?_
          refine AWp_seq ?_
          refine zw2 ?_
          refine AWp_cond rfl (fun h21 => ?_) (fun h21 => ?_)
          ·(try rw [h21]); (try simp only [decide_eq_true_eq, decide_eq_false_iff_not, Bool.not_eq_true', Bool.not_eq_false', Int.not_lt, Int.not_le, Bool.not_true, Bool.not_false, Int.toNat_natCast, tn1, tn2, tm1, tnn, bne_iff_ne, beq_iff_eq, beq_eq_false_iff_ne, ne_eq, Decidable.not_not] at h21)
           refine zw3 ?_
           refine zrt ?_
           first | (exfalso; omega; done) | (have hE : rNum s = ({}, 0) := by unfold rNum; rw [if_neg (by simp [h1]; omega), ht, if_pos (by rw [hnf, hnl]; omega)]); rw [hE]; exact RQ_ret (rkvs_cons (rkv_ck rfl rfl rfl) (rkvs_cons (rkv_t rfl) rfl)) hcl (by simp [rks, AV.lt, AV.ltL, ofConst1, ncells]) (Ret_of rfl) | (have hE : rNum s = ({}, 5) := by unfold rNum; rw [if_neg (by simp [h1]; omega), ht, if_neg (by rw [hnf, hnl]; omega), if_neg (by rw [hof]; exact (pb_niff _).1 (by assumption))]); rw [hE]; exact RQ_ret (rkvs_cons (rkv_ck rfl rfl rfl) (rkvs_cons (rkv_t rfl) rfl)) hcl (by simp [rks, AV.lt, AV.ltL, ofConst1, ncells]) (Ret_of rfl) | (have hE : rNum s = (⟨ng, d.extract f l, xx - b + ((d.size : Int) - l)⟩, 0) := by unfold rNum; rw [if_neg (by simp [h1]; omega), ht, if_neg (by rw [hnf, hnl]; omega), if_pos (by rw [hof]; exact (pb_iff _).1 (by assumption)), hof]); rw [hE]; exact RQ_ret (rkvs_cons (rkv_ck rfl rfl rfl) (rkvs_cons (rkv_t rfl) rfl)) hcl (by simp [rks, AV.lt, AV.ltL, ofConst1, ncells]) (Ret_of rfl)
          ·(try rw [h21]); (try simp only [decide_eq_true_eq, decide_eq_false_iff_not, Bool.not_eq_true', Bool.not_eq_false', Int.not_lt, Int.not_le, Bool.not_true, Bool.not_false, Int.toNat_natCast, tn1, tn2, tm1, tnn, bne_iff_ne, beq_iff_eq, beq_eq_false_iff_ne, ne_eq, Decidable.not_not] at h21)
           refine AWp_skip ?_
           refine zw3 ?_
           refine zrt ?_
           first | (exfalso; omega; done) | (have hE : rNum s = ({}, 0) := by unfold rNum; rw [if_neg (by simp [h1]; omega), ht, if_pos (by rw [hnf, hnl]; omega)]); rw [hE]; exact RQ_ret (rkvs_cons (rkv_ck rfl rfl rfl) (rkvs_cons (rkv_t rfl) rfl)) hcl (by simp [rks, AV.lt, AV.ltL, ofConst1, ncells]) (Ret_of rfl) | (have hE : rNum s = ({}, 5) := by unfold rNum; rw [if_neg (by simp [h1]; omega), ht, if_neg (by rw [hnf, hnl]; omega), if_neg (by rw [hof]; exact (pb_niff _).1 (by assumption))]); rw [hE]; exact RQ_ret (rkvs_cons (rkv_ck rfl rfl rfl) (rkvs_cons (rkv_t rfl) rfl)) hcl (by simp [rks, AV.lt, AV.ltL, ofConst1, ncells]) (Ret_of rfl) | (have hE : rNum s = (⟨ng, d.extract f l, xx - b + ((d.size : Int) - l)⟩, 0) := by unfold rNum; rw [if_neg (by simp [h1]; omega), ht, if_neg (by rw [hnf, hnl]; omega), if_pos (by rw [hof]; exact (pb_iff _).1 (by assumption)), hof]); rw [hE]; exact RQ_ret (rkvs_cons (rkv_ck rfl rfl rfl) (rkvs_cons (rkv_t rfl) rfl)) hcl (by simp [rks, AV.lt, AV.ltL, ofConst1, ncells]) (Ret_of rfl)
       ·rw [h18]; (try simp only [decide_eq_true_eq, decide_eq_false_iff_not, Bool.not_eq_true', Bool.not_eq_false', Int.not_lt, Int.not_le, Bool.not_true, Bool.not_false, Int.toNat_natCast, tn1, tn2, tm1, tnn, bne_iff_ne, beq_iff_eq, beq_eq_false_iff_ne, ne_eq, Decidable.not_not] at h18)
        refine zv6 ?_
        refine AWp_condF rfl ?_
        refine AWp_exit ?_
        refine AWp_seq ?_
        refine zsr ?_
        have hll : lz d f d.size = l := by rw [← hl1]; exact lz_no (by omega) hl2
        have hxs : (d.extract f l).size ≤ d.size := by rw [ByteArray.size_extract]; omega
        have hnf : nF ⟨ng, dn, pt, pw, d, b, x⟩ = f := hff
        have hnl : nL ⟨ng, dn, pt, pw, d, b, x⟩ = l := by unfold nL; rw [hnf]; exact hll
        have hof : nOf ⟨ng, dn, pt, pw, d, b, x⟩ = ⟨ng, d.extract f l, xx - b + ((d.size : Int) - l)⟩ := by unfold nOf; rw [hnf, hnl, ← hx1]
        refine zv3 ?_
        refine AWp_cond rfl (fun h22 => ?_) (fun h22 => ?_)
        ·(try rw [h22]); (try simp only [decide_eq_true_eq, decide_eq_false_iff_not, Bool.not_eq_true', Bool.not_eq_false', Int.not_lt, Int.not_le, Bool.not_true, Bool.not_false, Int.toNat_natCast, tn1, tn2, tm1, tnn, bne_iff_ne, beq_iff_eq, beq_eq_false_iff_ne, ne_eq, Decidable.not_not] at h22)
         refine zw3 ?_
         refine zrt ?_
         first | (exfalso; omega; done) | (have hE : rNum s = ({}, 0) := by unfold rNum; rw [if_neg (by simp [h1]; omega), ht, if_pos (by rw [hnf, hnl]; omega)]); rw [hE]; exact RQ_ret (rkvs_cons (rkv_ck rfl rfl rfl) (rkvs_cons (rkv_t rfl) rfl)) hcl (by simp [rks, AV.lt, AV.ltL, ofConst1, ncells]) (Ret_of rfl) | (have hE : rNum s = ({}, 5) := by unfold rNum; rw [if_neg (by simp [h1]; omega), ht, if_neg (by rw [hnf, hnl]; omega), if_neg (by rw [hof]; exact (pb_niff _).1 (by assumption))]); rw [hE]; exact RQ_ret (rkvs_cons (rkv_ck rfl rfl rfl) (rkvs_cons (rkv_t rfl) rfl)) hcl (by simp [rks, AV.lt, AV.ltL, ofConst1, ncells]) (Ret_of rfl) | (have hE : rNum s = (⟨ng, d.extract f l, xx - b + ((d.size : Int) - l)⟩, 0) := by unfold rNum; rw [if_neg (by simp [h1]; omega), ht, if_neg (by rw [hnf, hnl]; omega), if_pos (by rw [hof]; exact (pb_iff _).1 (by assumption)), hof]); rw [hE]; exact RQ_ret (rkvs_cons (rkv_ck rfl rfl rfl) (rkvs_cons (rkv_t rfl) rfl)) hcl (by simp [rks, AV.lt, AV.ltL, ofConst1, ncells]) (Ret_of rfl)
        ·(try rw [h22]); (try simp only [decide_eq_true_eq, decide_eq_false_iff_not, Bool.not_eq_true', Bool.not_eq_false', Int.not_lt, Int.not_le, Bool.not_true, Bool.not_false, Int.toNat_natCast, tn1, tn2, tm1, tnn, bne_iff_ne, beq_iff_eq, beq_eq_false_iff_ne, ne_eq, Decidable.not_not] at h22)
         refine AWp_skip ?_
         refine zu4 ?_
         simp only [Int.toNat_natCast]
         refine zg1 ?_
         refine ztN rfl rfl (op_storeO (r := [.bool ng, .str (d.extract f l), .int .i64 0]) rfl Tryz.sizeOf9 rfl rfl rfl rfl rfl (by decide)) ?_
         refine zon ?_
         refine zu2 ?_
         refine ztN rfl rfl (op_storeO (r := [.bool ng, .str (d.extract f l), .int .i64 (xx - b + ((d.size : Int) - l))]) rfl Tryz.sizeOf3 rfl rfl rfl rfl rfl (by decide)) ?_
         refine zon ?_
         refine zu1 ?_
         refine zt rfl (zc rfl (mayNum_c ⟨ng, d.extract f l, xx - b + ((d.size : Int) - l)⟩ _ (by simp only; omega))) ?_
         refine zv1 ?_
         refine AWp_seq ?_
         refine zw2 ?_
         refine AWp_cond rfl (fun h23 => ?_) (fun h23 => ?_)
         ·(try rw [h23]); (try simp only [decide_eq_true_eq, decide_eq_false_iff_not, Bool.not_eq_true', Bool.not_eq_false', Int.not_lt, Int.not_le, Bool.not_true, Bool.not_false, Int.toNat_natCast, tn1, tn2, tm1, tnn, bne_iff_ne, beq_iff_eq, beq_eq_false_iff_ne, ne_eq, Decidable.not_not] at h23)
          refine zw3 ?_
          refine zrt ?_
          first | (exfalso; omega; done) | (have hE : rNum s = ({}, 0) := by unfold rNum; rw [if_neg (by simp [h1]; omega), ht, if_pos (by rw [hnf, hnl]; omega)]); rw [hE]; exact RQ_ret (rkvs_cons (rkv_ck rfl rfl rfl) (rkvs_cons (rkv_t rfl) rfl)) hcl (by simp [rks, AV.lt, AV.ltL, ofConst1, ncells]) (Ret_of rfl) | (have hE : rNum s = ({}, 5) := by unfold rNum; rw [if_neg (by simp [h1]; omega), ht, if_neg (by rw [hnf, hnl]; omega), if_neg (by rw [hof]; exact (pb_niff _).1 (by assumption))]); rw [hE]; exact RQ_ret (rkvs_cons (rkv_ck rfl rfl rfl) (rkvs_cons (rkv_t rfl) rfl)) hcl (by simp [rks, AV.lt, AV.ltL, ofConst1, ncells]) (Ret_of rfl) | (have hE : rNum s = (⟨ng, d.extract f l, xx - b + ((d.size : Int) - l)⟩, 0) := by unfold rNum; rw [if_neg (by simp [h1]; omega), ht, if_neg (by rw [hnf, hnl]; omega), if_pos (by rw [hof]; exact (pb_iff _).1 (by assumption)), hof]); rw [hE]; exact RQ_ret (rkvs_cons (rkv_ck rfl rfl rfl) (rkvs_cons (rkv_t rfl) rfl)) hcl (by simp [rks, AV.lt, AV.ltL, ofConst1, ncells]) (Ret_of rfl)
         ·(try rw [h23]); (try simp only [decide_eq_true_eq, decide_eq_false_iff_not, Bool.not_eq_true', Bool.not_eq_false', Int.not_lt, Int.not_le, Bool.not_true, Bool.not_false, Int.toNat_natCast, tn1, tn2, tm1, tnn, bne_iff_ne, beq_iff_eq, beq_eq_false_iff_ne, ne_eq, Decidable.not_not] at h23)
          refine AWp_skip ?_
          refine zw3 ?_
          refine zrt ?_
          first | (exfalso; omega; done) | (have hE : rNum s = ({}, 0) := by unfold rNum; rw [if_neg (by simp [h1]; omega), ht, if_pos (by rw [hnf, hnl]; omega)]); rw [hE]; exact RQ_ret (rkvs_cons (rkv_ck rfl rfl rfl) (rkvs_cons (rkv_t rfl) rfl)) hcl (by simp [rks, AV.lt, AV.ltL, ofConst1, ncells]) (Ret_of rfl) | (have hE : rNum s = ({}, 5) := by unfold rNum; rw [if_neg (by simp [h1]; omega), ht, if_neg (by rw [hnf, hnl]; omega), if_neg (by rw [hof]; exact (pb_niff _).1 (by assumption))]); rw [hE]; exact RQ_ret (rkvs_cons (rkv_ck rfl rfl rfl) (rkvs_cons (rkv_t rfl) rfl)) hcl (by simp [rks, AV.lt, AV.ltL, ofConst1, ncells]) (Ret_of rfl) | (have hE : rNum s = (⟨ng, d.extract f l, xx - b + ((d.size : Int) - l)⟩, 0) := by unfold rNum; rw [if_neg (by simp [h1]; omega), ht, if_neg (by rw [hnf, hnl]; omega), if_pos (by rw [hof]; exact (pb_iff _).1 (by assumption)), hof]); rw [hE]; exact RQ_ret (rkvs_cons (rkv_ck rfl rfl rfl) (rkvs_cons (rkv_t rfl) rfl)) hcl (by simp [rks, AV.lt, AV.ltL, ofConst1, ncells]) (Ret_of rfl)
     ·rw [h16]; (try simp only [decide_eq_true_eq, decide_eq_false_iff_not, Bool.not_eq_true', Bool.not_eq_false', Int.not_lt, Int.not_le, Bool.not_true, Bool.not_false, Int.toNat_natCast, tn1, tn2, tm1, tnn, bne_iff_ne, beq_iff_eq, beq_eq_false_iff_ne, ne_eq, Decidable.not_not] at h16)
      refine zv5 ?_
      refine AWp_condF rfl ?_
      refine AWp_exit ?_
      refine zw3 ?_
      refine AWp_seq ?_
      refine AWp_block ?_
      -- loop 3 LIVE 2:alloc 3:assign 6:alloc 7:assign 10:assign 15:assign 16:assign
      have hff : fz d 0 = f := by rw [← hf1]; exact fz_no (by omega)
      refine AWp_loop (ι := Nat) (fun l => lz d f l = lz d f d.size ∧ f ≤ l ∧ l ≤ d.size) (fun l => ⟨[], [(2, .ptr (σ.length + 0) 0), (6, .ptr (σ.length + 1) 0), (7, .str d), (10, .int .i64 (xx - b + ((d.size : Int) - l))), (15, .int .i64 (f : Int)), (16, .int .i64 (l : Int))]⟩) (fun l => σ ++ [_, _]) (fun l => l) (d.size) (⟨rfl, hf2, Nat.le_refl _⟩) ?_ rfl (fun l hl => ?_)
      ·refine ⟨rfl, rfl, rfl, rfl, ?_, rfl, rfl, trivial⟩
       rw [Int.sub_self, Int.add_zero]; rfl
      obtain ⟨hl1, hl2, hl3⟩ := hl
      refine AWp_seq ?_
      refine zu4 ?_
      refine zsp 99 rfl (fun h24 => ?_) fun h24 => ?_
      ·rw [h24]; (try simp only [decide_eq_true_eq, decide_eq_false_iff_not, Bool.not_eq_true', Bool.not_eq_false', Int.not_lt, Int.not_le, Bool.not_true, Bool.not_false, Int.toNat_natCast, tn1, tn2, tm1, tnn, bne_iff_ne, beq_iff_eq, beq_eq_false_iff_ne, ne_eq, Decidable.not_not] at h24)
       refine zv6 ?_
       refine AWp_cond rfl (fun h25 => ?_) (fun h25 => ?_)
       ·(try rw [h25]); (try simp only [decide_eq_true_eq, decide_eq_false_iff_not, Bool.not_eq_true', Bool.not_eq_false', Int.not_lt, Int.not_le, Bool.not_true, Bool.not_false, Int.toNat_natCast, tn1, tn2, tm1, tnn, bne_iff_ne, beq_iff_eq, beq_eq_false_iff_ne, ne_eq, Decidable.not_not] at h25)
        refine AWp_skip ?_
        refine AWp_block ?_
        refine zw3 ?_
        refine AWp_regL ?_
        refine zv3 ?_
        refine ⟨l - 1, σ.length + 2, ⟨by rw [← hl1]; exact (lz_yes (by omega) (by omega)).symm, by omega⟩, by omega, by simp, ⟨rfl, rfl, rfl, rfl, ?_, rfl, ?_, trivial⟩, closed_own 2 hcl (by simp [ownLt, AO.cells, AV.ltL, AV.lt]), by simp [ltE, AV.lt], take_own 2⟩
        ·rw [show xx - b + ((d.size : Int) - ((l - 1 : Nat) : Int)) = xx - b + ((d.size : Int) - (l : Int)) + 1 by omega]; rfl
        ·rw [show ((l - 1 : Nat) : Int) = (l : Int) - 1 by omega]; rfl
       ·(try rw [h25]); (try simp only [decide_eq_true_eq, decide_eq_false_iff_not, Bool.not_eq_true', Bool.not_eq_false', Int.not_lt, Int.not_le, Bool.not_true, Bool.not_false, Int.toNat_natCast, tn1, tn2, tm1, tnn, bne_iff_ne, beq_iff_eq, beq_eq_false_iff_ne, ne_eq, Decidable.not_not] at h25)
        refine AWp_exit ?_
        refine AWp_seq ?_
        refine zsr ?_
        have hll : lz d f d.size = l := by rw [← hl1]; exact lz_no (by omega) hl2
        have hxs : (d.extract f l).size ≤ d.size := by rw [ByteArray.size_extract]; omega
        have hnf : nF ⟨ng, dn, pt, pw, d, b, x⟩ = f := hff
        have hnl : nL ⟨ng, dn, pt, pw, d, b, x⟩ = l := by unfold nL; rw [hnf]; exact hll
        have hof : nOf ⟨ng, dn, pt, pw, d, b, x⟩ = ⟨ng, d.extract f l, xx - b + ((d.size : Int) - l)⟩ := by unfold nOf; rw [hnf, hnl, ← hx1]
        refine zv3 ?_
        refine AWp_cond rfl (fun h26 => ?_) (fun h26 => ?_)
        ·(try rw [h26]); (try simp only [decide_eq_true_eq, decide_eq_false_iff_not, Bool.not_eq_true', Bool.not_eq_false', Int.not_lt, Int.not_le, Bool.not_true, Bool.not_false, Int.toNat_natCast, tn1, tn2, tm1, tnn, bne_iff_ne, beq_iff_eq, beq_eq_false_iff_ne, ne_eq, Decidable.not_not] at h26)
         refine zw3 ?_
         refine zrt ?_
         first | (exfalso; omega; done) | (have hE : rNum s = ({}, 0) := by unfold rNum; rw [if_neg (by simp [h1]; omega), ht, if_pos (by rw [hnf, hnl]; omega)]); rw [hE]; exact RQ_ret (rkvs_cons (rkv_ck rfl rfl rfl) (rkvs_cons (rkv_t rfl) rfl)) hcl (by simp [rks, AV.lt, AV.ltL, ofConst1, ncells]) (Ret_of rfl) | (have hE : rNum s = ({}, 5) := by unfold rNum; rw [if_neg (by simp [h1]; omega), ht, if_neg (by rw [hnf, hnl]; omega), if_neg (by rw [hof]; exact (pb_niff _).1 (by assumption))]); rw [hE]; exact RQ_ret (rkvs_cons (rkv_ck rfl rfl rfl) (rkvs_cons (rkv_t rfl) rfl)) hcl (by simp [rks, AV.lt, AV.ltL, ofConst1, ncells]) (Ret_of rfl) | (have hE : rNum s = (⟨ng, d.extract f l, xx - b + ((d.size : Int) - l)⟩, 0) := by unfold rNum; rw [if_neg (by simp [h1]; omega), ht, if_neg (by rw [hnf, hnl]; omega), if_pos (by rw [hof]; exact (pb_iff _).1 (by assumption)), hof]); rw [hE]; exact RQ_ret (rkvs_cons (rkv_ck rfl rfl rfl) (rkvs_cons (rkv_t rfl) rfl)) hcl (by simp [rks, AV.lt, AV.ltL, ofConst1, ncells]) (Ret_of rfl)
        ·(try rw [h26]); (try simp only [decide_eq_true_eq, decide_eq_false_iff_not, Bool.not_eq_true', Bool.not_eq_false', Int.not_lt, Int.not_le, Bool.not_true, Bool.not_false, Int.toNat_natCast, tn1, tn2, tm1, tnn, bne_iff_ne, beq_iff_eq, beq_eq_false_iff_ne, ne_eq, Decidable.not_not] at h26)
         refine AWp_skip ?_
         refine zu4 ?_
         simp only [Int.toNat_natCast]
         refine zg1 ?_
         refine ztN rfl rfl (op_storeO (r := [.bool ng, .str (d.extract f l), .int .i64 0]) rfl Tryz.sizeOf9 rfl rfl rfl rfl rfl (by decide)) ?_
         refine zon ?_
         refine zu2 ?_
         refine ztN rfl rfl (op_storeO (r := [.bool ng, .str (d.extract f l), .int .i64 (xx - b + ((d.size : Int) - l))]) rfl Tryz.sizeOf3 rfl rfl rfl rfl rfl (by decide)) ?_
         refine zon ?_
         refine zu1 ?_
         refine zt rfl (zc rfl (mayNum_c ⟨ng, d.extract f l, xx - b + ((d.size : Int) - l)⟩ _ (by simp only; omega))) ?_
         refine zv1 ?_
         refine AWp_seq ?_
         refine zw2 ?_
         refine AWp_cond rfl (fun h27 => ?_) (fun h27 => ?_)
         ·(try rw [h27]); (try simp only [decide_eq_true_eq, decide_eq_false_iff_not, Bool.not_eq_true', Bool.not_eq_false', Int.not_lt, Int.not_le, Bool.not_true, Bool.not_false, Int.toNat_natCast, tn1, tn2, tm1, tnn, bne_iff_ne, beq_iff_eq, beq_eq_false_iff_ne, ne_eq, Decidable.not_not] at h27)
          refine zw3 ?_
          refine zrt ?_
          first | (exfalso; omega; done) | (have hE : rNum s = ({}, 0) := by unfold rNum; rw [if_neg (by simp [h1]; omega), ht, if_pos (by rw [hnf, hnl]; omega)]); rw [hE]; exact RQ_ret (rkvs_cons (rkv_ck rfl rfl rfl) (rkvs_cons (rkv_t rfl) rfl)) hcl (by simp [rks, AV.lt, AV.ltL, ofConst1, ncells]) (Ret_of rfl) | (have hE : rNum s = ({}, 5) := by unfold rNum; rw [if_neg (by simp [h1]; omega), ht, if_neg (by rw [hnf, hnl]; omega), if_neg (by rw [hof]; exact (pb_niff _).1 (by assumption))]); rw [hE]; exact RQ_ret (rkvs_cons (rkv_ck rfl rfl rfl) (rkvs_cons (rkv_t rfl) rfl)) hcl (by simp [rks, AV.lt, AV.ltL, ofConst1, ncells]) (Ret_of rfl) | (have hE : rNum s = (⟨ng, d.extract f l, xx - b + ((d.size : Int) - l)⟩, 0) := by unfold rNum; rw [if_neg (by simp [h1]; omega), ht, if_neg (by rw [hnf, hnl]; omega), if_pos (by rw [hof]; exact (pb_iff _).1 (by assumption)), hof]); rw [hE]; exact RQ_ret (rkvs_cons (rkv_ck rfl rfl rfl) (rkvs_cons (rkv_t rfl) rfl)) hcl (by simp [rks, AV.lt, AV.ltL, ofConst1, ncells]) (Ret_of rfl)
         ·(try rw [h27]); (try simp only [decide_eq_true_eq, decide_eq_false_iff_not, Bool.not_eq_true', Bool.not_eq_false', Int.not_lt, Int.not_le, Bool.not_true, Bool.not_false, Int.toNat_natCast, tn1, tn2, tm1, tnn, bne_iff_ne, beq_iff_eq, beq_eq_false_iff_ne, ne_eq, Decidable.not_not] at h27)
          refine AWp_skip ?_
          refine zw3 ?_
          refine zrt ?_
          first | (exfalso; omega; done) | (have hE : rNum s = ({}, 0) := by unfold rNum; rw [if_neg (by simp [h1]; omega), ht, if_pos (by rw [hnf, hnl]; omega)]); rw [hE]; exact RQ_ret (rkvs_cons (rkv_ck rfl rfl rfl) (rkvs_cons (rkv_t rfl) rfl)) hcl (by simp [rks, AV.lt, AV.ltL, ofConst1, ncells]) (Ret_of rfl) | (have hE : rNum s = ({}, 5) := by unfold rNum; rw [if_neg (by simp [h1]; omega), ht, if_neg (by rw [hnf, hnl]; omega), if_neg (by rw [hof]; exact (pb_niff _).1 (by assumption))]); rw [hE]; exact RQ_ret (rkvs_cons (rkv_ck rfl rfl rfl) (rkvs_cons (rkv_t rfl) rfl)) hcl (by simp [rks, AV.lt, AV.ltL, ofConst1, ncells]) (Ret_of rfl) | (have hE : rNum s = (⟨ng, d.extract f l, xx - b + ((d.size : Int) - l)⟩, 0) := by unfold rNum; rw [if_neg (by simp [h1]; omega), ht, if_neg (by rw [hnf, hnl]; omega), if_pos (by rw [hof]; exact (pb_iff _).1 (by assumption)), hof]); rw [hE]; exact RQ_ret (rkvs_cons (rkv_ck rfl rfl rfl) (rkvs_cons (rkv_t rfl) rfl)) hcl (by simp [rks, AV.lt, AV.ltL, ofConst1, ncells]) (Ret_of rfl)
      ·rw [h24]; (try simp only [decide_eq_true_eq, decide_eq_false_iff_not, Bool.not_eq_true', Bool.not_eq_false', Int.not_lt, Int.not_le, Bool.not_true, Bool.not_false, Int.toNat_natCast, tn1, tn2, tm1, tnn, bne_iff_ne, beq_iff_eq, beq_eq_false_iff_ne, ne_eq, Decidable.not_not] at h24)
       refine zv6 ?_
       refine AWp_condF rfl ?_
       refine AWp_exit ?_
       refine AWp_seq ?_
       refine zsr ?_
       have hll : lz d f d.size = l := by rw [← hl1]; exact lz_no (by omega) hl2
       have hxs : (d.extract f l).size ≤ d.size := by rw [ByteArray.size_extract]; omega
       have hnf : nF ⟨ng, dn, pt, pw, d, b, x⟩ = f := hff
       have hnl : nL ⟨ng, dn, pt, pw, d, b, x⟩ = l := by unfold nL; rw [hnf]; exact hll
       have hof : nOf ⟨ng, dn, pt, pw, d, b, x⟩ = ⟨ng, d.extract f l, xx - b + ((d.size : Int) - l)⟩ := by unfold nOf; rw [hnf, hnl, ← hx1]
       refine zv3 ?_
       refine AWp_cond rfl (fun h28 => ?_) (fun h28 => ?_)
       ·(try rw [h28]); (try simp only [decide_eq_true_eq, decide_eq_false_iff_not, Bool.not_eq_true', Bool.not_eq_false', Int.not_lt, Int.not_le, Bool.not_true, Bool.not_false, Int.toNat_natCast, tn1, tn2, tm1, tnn, bne_iff_ne, beq_iff_eq, beq_eq_false_iff_ne, ne_eq, Decidable.not_not] at h28)
        refine zw3 ?_
        refine zrt ?_
        first | (exfalso; omega; done) | (have hE : rNum s = ({}, 0) := by unfold rNum; rw [if_neg (by simp [h1]; omega), ht, if_pos (by rw [hnf, hnl]; omega)]); rw [hE]; exact RQ_ret (rkvs_cons (rkv_ck rfl rfl rfl) (rkvs_cons (rkv_t rfl) rfl)) hcl (by simp [rks, AV.lt, AV.ltL, ofConst1, ncells]) (Ret_of rfl) | (have hE : rNum s = ({}, 5) := by unfold rNum; rw [if_neg (by simp [h1]; omega), ht, if_neg (by rw [hnf, hnl]; omega), if_neg (by rw [hof]; exact (pb_niff _).1 (by assumption))]); rw [hE]; exact RQ_ret (rkvs_cons (rkv_ck rfl rfl rfl) (rkvs_cons (rkv_t rfl) rfl)) hcl (by simp [rks, AV.lt, AV.ltL, ofConst1, ncells]) (Ret_of rfl) | (have hE : rNum s = (⟨ng, d.extract f l, xx - b + ((d.size : Int) - l)⟩, 0) := by unfold rNum; rw [if_neg (by simp [h1]; omega), ht, if_neg (by rw [hnf, hnl]; omega), if_pos (by rw [hof]; exact (pb_iff _).1 (by assumption)), hof]); rw [hE]; exact RQ_ret (rkvs_cons (rkv_ck rfl rfl rfl) (rkvs_cons (rkv_t rfl) rfl)) hcl (by simp [rks, AV.lt, AV.ltL, ofConst1, ncells]) (Ret_of rfl)
       ·(try rw [h28]); (try simp only [decide_eq_true_eq, decide_eq_false_iff_not, Bool.not_eq_true', Bool.not_eq_false', Int.not_lt, Int.not_le, Bool.not_true, Bool.not_false, Int.toNat_natCast, tn1, tn2, tm1, tnn, bne_iff_ne, beq_iff_eq, beq_eq_false_iff_ne, ne_eq, Decidable.not_not] at h28)
        refine AWp_skip ?_
        refine zu4 ?_
        simp only [Int.toNat_natCast]
        refine zg1 ?_
        refine ztN rfl rfl (op_storeO (r := [.bool ng, .str (d.extract f l), .int .i64 0]) rfl Tryz.sizeOf9 rfl rfl rfl rfl rfl (by decide)) ?_
        refine zon ?_
        refine zu2 ?_
        refine ztN rfl rfl (op_storeO (r := [.bool ng, .str (d.extract f l), .int .i64 (xx - b + ((d.size : Int) - l))]) rfl Tryz.sizeOf3 rfl rfl rfl rfl rfl (by decide)) ?_
        refine zon ?_
        refine zu1 ?_
        refine zt rfl (zc rfl (mayNum_c ⟨ng, d.extract f l, xx - b + ((d.size : Int) - l)⟩ _ (by simp only; omega))) ?_
        refine zv1 ?_
        refine AWp_seq ?_
        refine zw2 ?_
        refine AWp_cond rfl (fun h29 => ?_) (fun h29 => ?_)
        ·(try rw [h29]); (try simp only [decide_eq_true_eq, decide_eq_false_iff_not, Bool.not_eq_true', Bool.not_eq_false', Int.not_lt, Int.not_le, Bool.not_true, Bool.not_false, Int.toNat_natCast, tn1, tn2, tm1, tnn, bne_iff_ne, beq_iff_eq, beq_eq_false_iff_ne, ne_eq, Decidable.not_not] at h29)
         refine zw3 ?_
         refine zrt ?_
         first | (exfalso; omega; done) | (have hE : rNum s = ({}, 0) := by unfold rNum; rw [if_neg (by simp [h1]; omega), ht, if_pos (by rw [hnf, hnl]; omega)]); rw [hE]; exact RQ_ret (rkvs_cons (rkv_ck rfl rfl rfl) (rkvs_cons (rkv_t rfl) rfl)) hcl (by simp [rks, AV.lt, AV.ltL, ofConst1, ncells]) (Ret_of rfl) | (have hE : rNum s = ({}, 5) := by unfold rNum; rw [if_neg (by simp [h1]; omega), ht, if_neg (by rw [hnf, hnl]; omega), if_neg (by rw [hof]; exact (pb_niff _).1 (by assumption))]); rw [hE]; exact RQ_ret (rkvs_cons (rkv_ck rfl rfl rfl) (rkvs_cons (rkv_t rfl) rfl)) hcl (by simp [rks, AV.lt, AV.ltL, ofConst1, ncells]) (Ret_of rfl) | (have hE : rNum s = (⟨ng, d.extract f l, xx - b + ((d.size : Int) - l)⟩, 0) := by unfold rNum; rw [if_neg (by simp [h1]; omega), ht, if_neg (by rw [hnf, hnl]; omega), if_pos (by rw [hof]; exact (pb_iff _).1 (by assumption)), hof]); rw [hE]; exact RQ_ret (rkvs_cons (rkv_ck rfl rfl rfl) (rkvs_cons (rkv_t rfl) rfl)) hcl (by simp [rks, AV.lt, AV.ltL, ofConst1, ncells]) (Ret_of rfl)
        ·(try rw [h29]); (try simp only [decide_eq_true_eq, decide_eq_false_iff_not, Bool.not_eq_true', Bool.not_eq_false', Int.not_lt, Int.not_le, Bool.not_true, Bool.not_false, Int.toNat_natCast, tn1, tn2, tm1, tnn, bne_iff_ne, beq_iff_eq, beq_eq_false_iff_ne, ne_eq, Decidable.not_not] at h29)
         refine AWp_skip ?_
         refine zw3 ?_
         refine zrt ?_
         first | (exfalso; omega; done) | (have hE : rNum s = ({}, 0) := by unfold rNum; rw [if_neg (by simp [h1]; omega), ht, if_pos (by rw [hnf, hnl]; omega)]); rw [hE]; exact RQ_ret (rkvs_cons (rkv_ck rfl rfl rfl) (rkvs_cons (rkv_t rfl) rfl)) hcl (by simp [rks, AV.lt, AV.ltL, ofConst1, ncells]) (Ret_of rfl) | (have hE : rNum s = ({}, 5) := by unfold rNum; rw [if_neg (by simp [h1]; omega), ht, if_neg (by rw [hnf, hnl]; omega), if_neg (by rw [hof]; exact (pb_niff _).1 (by assumption))]); rw [hE]; exact RQ_ret (rkvs_cons (rkv_ck rfl rfl rfl) (rkvs_cons (rkv_t rfl) rfl)) hcl (by simp [rks, AV.lt, AV.ltL, ofConst1, ncells]) (Ret_of rfl) | (have hE : rNum s = (⟨ng, d.extract f l, xx - b + ((d.size : Int) - l)⟩, 0) := by unfold rNum; rw [if_neg (by simp [h1]; omega), ht, if_neg (by rw [hnf, hnl]; omega), if_pos (by rw [hof]; exact (pb_iff _).1 (by assumption)), hof]); rw [hE]; exact RQ_ret (rkvs_cons (rkv_ck rfl rfl rfl) (rkvs_cons (rkv_t rfl) rfl)) hcl (by simp [rks, AV.lt, AV.ltL, ofConst1, ncells]) (Ret_of rfl)
end Lg
set_option maxRecDepth 20000
set_option maxHeartbeats 4000000
namespace Lg
open Go Go.Proofs Go.RowKit
variable [GLay] 
theorem value_r (s : ByteArray) (hs : s.size ≤ 100000) : ∀ (n : Nat) (r : RS) (p : Nat) (σ : List AO), σ[p]? = some (rbox s r) → ROK s r → s.size + 1 < n + r.a → ACalls Tryz.prog 61 [.ptr p 0] σ (Ret (.agg (vcells (rval n s r).1)) (σ.set p (rbox s (rval n s r).2))) := by
 intro n
 induction n with
 | zero => intro r p σ hσ h hn; exfalso; have := h.a; omega
 | succ n ih =>
 intro r p σ hσ h hn
 have hp : p < σ.length := (List.getElem?_eq_some_iff.1 hσ).1
 have hb1 := rblank_to h
 have hta := hb1.a
 refine ACalls_bodyC Tryz.func61 rfl Tryz.ntmps61 (by rw [Tryz.results61]; exact (.ck Tryz.isAgg28 Tryz.sizeOf28 .nil)) (Nat.le_of_ble_eq_true rfl) (fun hcl hal => ?_)
 refine AWp_heap (set_same hσ) ?_
 refine zw1 ?_
 refine zw1 ?_
 refine zu1 ?_
 refine zt rfl (zc rfl (callSA hp (blank_r s r p _ (get_setA hp) hs h))) ?_
 refine zon ?_
 refine AWp_seq ?_
 have hres : rval (n + 1) s r = ((rone (rval n s) s (rblank s r)).1, rblank s (rone (rval n s) s (rblank s r)).2) := rfl
 generalize rblank s r = t at hb1 hta hres ⊢
 have htk := hb1.ok.a
 have htb := hb1.ok.b
 have hn2 : s.size + 1 < n + t.a + 1 := by omega
 refine AWp_regL ?_
 refine zg1 ?_
 refine zt rfl (zc rfl (peek_r s t p _ (get_setA hp))) ?_
 refine zv1 ?_
 refine AWp_join (ι := AV × AV × List AO) (fun z => AVle z.1 (.sl false 8 (lcells (rone (rval n s) s t).1.l)) ∧ AVle z.2.1 (.sl false 9 (mcells (rone (rval n s) s t).1.m))) (fun z => ⟨[], [(0, .ptr p 0), (2, .ptr (σ.length + 0) 0), (3, .ptr (σ.length + 1) 0)]⟩) (fun z => σ.set p (rbox s (rone (rval n s) s t).2) ++ ([.box [.int .i64 0, .bool false, .bool false, .str e0, .int .i64 0, .str e0, .nils, .nils], .box [.int .i64 (rone (rval n s) s t).1.kind, .bool (rone (rval n s) s t).1.b, .bool (rone (rval n s) s t).1.n.neg, .str (rone (rval n s) s t).1.n.digits, .int .i64 (rone (rval n s) s t).1.n.exp, .str (rone (rval n s) s t).1.s, z.1, z.2.1]] ++ z.2.2)) ?_ (fun z hj => ?_)
 ·skip
  refine zw2 ?_
  refine AWp_cond rfl (fun h1 => ?_) (fun h1 => ?_)
  ·(try rw [h1]); (try simp only [decide_eq_true_eq, decide_eq_false_iff_not, Bool.not_eq_true', Bool.not_eq_false', Int.not_lt, Int.not_le, Bool.not_true, Bool.not_false, Int.toNat_natCast, tn1, tn2, tnn, bne_iff_ne, beq_iff_eq, beq_eq_false_iff_ne, ne_eq, Decidable.not_not] at h1)
   have hpk := pk_yes (s := s) (a := t.a) (bad := t.bad) (by omega)
   refine AWp_regL ?_
   refine zg1 ?_
   refine zt rfl (zc rfl (callSA hp (object_r s n ih t p _ (get_setA hp) hs hb1.ok hpk.1 hpk.2.1 hn2))) ?_
   rw [vcells_eq (robj (rval n s) s t).1]
   refine zv1 ?_
   have hone : rone (rval n s) s t = robj (rval n s) s t := by unfold rone; rw [if_pos (by omega)]
   simp only [hone]
   exact ⟨(.sl false 8 (lcells (robj (rval n s) s t).1.l), .sl false 9 (mcells (robj (rval n s) s t).1.m), _), ⟨AVle.refl _, AVle.refl _⟩, ⟨rfl, rfl, rfl, rfl, trivial⟩, rfl⟩
  ·(try rw [h1]); (try simp only [decide_eq_true_eq, decide_eq_false_iff_not, Bool.not_eq_true', Bool.not_eq_false', Int.not_lt, Int.not_le, Bool.not_true, Bool.not_false, Int.toNat_natCast, tn1, tn2, tnn, bne_iff_ne, beq_iff_eq, beq_eq_false_iff_ne, ne_eq, Decidable.not_not] at h1)
   refine zw2 ?_
   refine AWp_cond rfl (fun h2 => ?_) (fun h2 => ?_)
   ·(try rw [h2]); (try simp only [decide_eq_true_eq, decide_eq_false_iff_not, Bool.not_eq_true', Bool.not_eq_false', Int.not_lt, Int.not_le, Bool.not_true, Bool.not_false, Int.toNat_natCast, tn1, tn2, tnn, bne_iff_ne, beq_iff_eq, beq_eq_false_iff_ne, ne_eq, Decidable.not_not] at h2)
    have hpk := pk_yes (s := s) (a := t.a) (bad := t.bad) (by omega)
    refine AWp_regL ?_
    refine zg1 ?_
    refine zt rfl (zc rfl (callSA hp (array_r s n ih t p _ (get_setA hp) hs hb1.ok hpk.1 hpk.2.1 hn2))) ?_
    rw [vcells_eq (rarr (rval n s) s t).1]
    refine zv1 ?_
    have hone : rone (rval n s) s t = rarr (rval n s) s t := by unfold rone; rw [if_neg (by omega), if_pos (by omega)]
    simp only [hone]
    exact ⟨(.sl false 8 (lcells (rarr (rval n s) s t).1.l), .sl false 9 (mcells (rarr (rval n s) s t).1.m), _), ⟨AVle.refl _, AVle.refl _⟩, ⟨rfl, rfl, rfl, rfl, trivial⟩, rfl⟩
   ·(try rw [h2]); (try simp only [decide_eq_true_eq, decide_eq_false_iff_not, Bool.not_eq_true', Bool.not_eq_false', Int.not_lt, Int.not_le, Bool.not_true, Bool.not_false, Int.toNat_natCast, tn1, tn2, tnn, bne_iff_ne, beq_iff_eq, beq_eq_false_iff_ne, ne_eq, Decidable.not_not] at h2)
    refine zw2 ?_
    refine AWp_cond rfl (fun h3 => ?_) (fun h3 => ?_)
    ·(try rw [h3]); (try simp only [decide_eq_true_eq, decide_eq_false_iff_not, Bool.not_eq_true', Bool.not_eq_false', Int.not_lt, Int.not_le, Bool.not_true, Bool.not_false, Int.toNat_natCast, tn1, tn2, tnn, bne_iff_ne, beq_iff_eq, beq_eq_false_iff_ne, ne_eq, Decidable.not_not] at h3)
     refine AWp_regL ?_
     refine zg1 ?_
     refine zt rfl (zc rfl (callSA hp (text_r s t p _ (get_setA hp) hs hb1.ok))) ?_
     refine zv2 ?_
     have hone : rone (rval n s) s t = (.mk 3 false {} (rtext s t).1 [] [], (rtext s t).2) := by unfold rone; rw [if_neg (by omega), if_neg (by omega), if_pos (by omega)]
     simp only [hone]
     exact ⟨(.nils, .nils, _), ⟨nilL, nilM⟩, ⟨rfl, rfl, rfl, rfl, trivial⟩, rfl⟩
    ·(try rw [h3]); (try simp only [decide_eq_true_eq, decide_eq_false_iff_not, Bool.not_eq_true', Bool.not_eq_false', Int.not_lt, Int.not_le, Bool.not_true, Bool.not_false, Int.toNat_natCast, tn1, tn2, tnn, bne_iff_ne, beq_iff_eq, beq_eq_false_iff_ne, ne_eq, Decidable.not_not] at h3)
     refine zw2 ?_
     refine AWp_cond rfl (fun h4 => ?_) (fun h4 => ?_)
     ·(try rw [h4]); (try simp only [decide_eq_true_eq, decide_eq_false_iff_not, Bool.not_eq_true', Bool.not_eq_false', Int.not_lt, Int.not_le, Bool.not_true, Bool.not_false, Int.toNat_natCast, tn1, tn2, tnn, bne_iff_ne, beq_iff_eq, beq_eq_false_iff_ne, ne_eq, Decidable.not_not] at h4)
      refine AWp_regL ?_
      refine zg1 ?_
      refine zt rfl (zc rfl (callSA hp (want_c lNull s t p _ (get_setA hp) hs (by decide) hb1.ok))) ?_
      refine zon ?_
      have hone : rone (rval n s) s t = (vz, rwant s lNull t) := by unfold rone; rw [if_neg (by omega), if_neg (by omega), if_neg (by omega), if_pos (by omega)]
      simp only [hone]
      exact ⟨(.nils, .nils, _), ⟨nilL, nilM⟩, ⟨rfl, rfl, rfl, rfl, trivial⟩, rfl⟩
     ·(try rw [h4]); (try simp only [decide_eq_true_eq, decide_eq_false_iff_not, Bool.not_eq_true', Bool.not_eq_false', Int.not_lt, Int.not_le, Bool.not_true, Bool.not_false, Int.toNat_natCast, tn1, tn2, tnn, bne_iff_ne, beq_iff_eq, beq_eq_false_iff_ne, ne_eq, Decidable.not_not] at h4)
      refine zw2 ?_
      refine AWp_cond rfl (fun h5 => ?_) (fun h5 => ?_)
      ·(try rw [h5]); (try simp only [decide_eq_true_eq, decide_eq_false_iff_not, Bool.not_eq_true', Bool.not_eq_false', Int.not_lt, Int.not_le, Bool.not_true, Bool.not_false, Int.toNat_natCast, tn1, tn2, tnn, bne_iff_ne, beq_iff_eq, beq_eq_false_iff_ne, ne_eq, Decidable.not_not] at h5)
       refine zu1 ?_
       refine zt rfl (zc rfl (callSA hp (want_c lTrue s t p _ (get_setA hp) hs (by decide) hb1.ok))) ?_
       refine zon ?_
       refine AWp_regL ?_
       refine zv2 ?_
       have hone : rone (rval n s) s t = (.mk 1 true {} e0 [] [], rwant s lTrue t) := by unfold rone; rw [if_neg (by omega), if_neg (by omega), if_neg (by omega), if_neg (by omega), if_pos (by omega)]
       simp only [hone]
       exact ⟨(.nils, .nils, _), ⟨nilL, nilM⟩, ⟨rfl, rfl, rfl, rfl, trivial⟩, rfl⟩
      ·(try rw [h5]); (try simp only [decide_eq_true_eq, decide_eq_false_iff_not, Bool.not_eq_true', Bool.not_eq_false', Int.not_lt, Int.not_le, Bool.not_true, Bool.not_false, Int.toNat_natCast, tn1, tn2, tnn, bne_iff_ne, beq_iff_eq, beq_eq_false_iff_ne, ne_eq, Decidable.not_not] at h5)
       refine zw2 ?_
       refine AWp_cond rfl (fun h6 => ?_) (fun h6 => ?_)
       ·(try rw [h6]); (try simp only [decide_eq_true_eq, decide_eq_false_iff_not, Bool.not_eq_true', Bool.not_eq_false', Int.not_lt, Int.not_le, Bool.not_true, Bool.not_false, Int.toNat_natCast, tn1, tn2, tnn, bne_iff_ne, beq_iff_eq, beq_eq_false_iff_ne, ne_eq, Decidable.not_not] at h6)
        refine zu1 ?_
        refine zt rfl (zc rfl (callSA hp (want_c lFalse s t p _ (get_setA hp) hs (by decide) hb1.ok))) ?_
        refine zon ?_
        refine AWp_regL ?_
        refine zv2 ?_
        have hone : rone (rval n s) s t = (.mk 1 false {} e0 [] [], rwant s lFalse t) := by unfold rone; rw [if_neg (by omega), if_neg (by omega), if_neg (by omega), if_neg (by omega), if_neg (by omega), if_pos (by omega)]
        simp only [hone]
        exact ⟨(.nils, .nils, _), ⟨nilL, nilM⟩, ⟨rfl, rfl, rfl, rfl, trivial⟩, rfl⟩
       ·(try rw [h6]); (try simp only [decide_eq_true_eq, decide_eq_false_iff_not, Bool.not_eq_true', Bool.not_eq_false', Int.not_lt, Int.not_le, Bool.not_true, Bool.not_false, Int.toNat_natCast, tn1, tn2, tnn, bne_iff_ne, beq_iff_eq, beq_eq_false_iff_ne, ne_eq, Decidable.not_not] at h6)
        refine zu3 ?_
        refine zsp 42 rfl (fun h7 => ?_) fun h7 => ?_
        ·rw [h7]; (try simp only [decide_eq_true_eq, decide_eq_false_iff_not, Bool.not_eq_true', Bool.not_eq_false', Int.not_lt, Int.not_le, Bool.not_true, Bool.not_false, Int.toNat_natCast, tn1, tn2, tnn, bne_iff_ne, beq_iff_eq, beq_eq_false_iff_ne, ne_eq, Decidable.not_not] at h7)
         refine zv7 ?_
         refine AWp_condT rfl ?_
         refine AWp_seq ?_
         have hpk := pk_yes (s := s) (a := t.a) (bad := t.bad) (by omega)
         have hel := rEnd_le (s := s) (a := t.a) (by omega)
         refine AWp_drawL #[0, 1, 3, 7, 0, 16, 48, 112, 255, 511, 1023, 1023, 2047, 8191] Tryz.mixed (by decide +kernel) (by decide +kernel) ?_
         refine zd3 ?_
         refine zp1 ?_
         refine zd3 ?_
         refine zp1 ?_
         refine yP rfl rfl (zc rfl (end_c s t.a _ (by omega) (by omega))) (trivial) ?_
         refine zd5 ?_
         refine RP.nil rfl ?_
         refine AWp_join (ι := RS) (fun y => y = (if (rEnd s t.a).2 = true then t else rfail t (rEnd s t.a).1 1) ∧ y.a = t.a ∧ y.deep = t.deep) (fun y => ⟨[], [(0, .ptr p 0), (2, .ptr (σ.length + 0) 0), (3, .ptr (σ.length + 1) 0), (5, .int .i64 ((rEnd s t.a).1 : Int))]⟩) (fun y => σ.set p (rbox s y) ++ [.box [.int .i64 0, .bool false, .bool false, .str e0, .int .i64 0, .str e0, .nils, .nils], .box [.int .i64 0, .bool false, .bool false, .str e0, .int .i64 0, .str e0, .nils, .nils]]) ?_ (fun y hj => ?_)
         ·skip
          refine zw2 ?_
          refine AWp_cond rfl (fun h8 => ?_) (fun h8 => ?_)
          ·(try rw [h8]); (try simp only [decide_eq_true_eq, decide_eq_false_iff_not, Bool.not_eq_true', Bool.not_eq_false', Int.not_lt, Int.not_le, Bool.not_true, Bool.not_false, Int.toNat_natCast, tn1, tn2, tnn, bne_iff_ne, beq_iff_eq, beq_eq_false_iff_ne, ne_eq, Decidable.not_not] at h8)
           refine AWp_regL ?_
           refine zg2 ?_
           refine zt rfl (zc rfl (callSA hp (fail_r s t p _ (get_setA hp) ((rEnd s t.a).1 : Int) 1))) ?_
           refine zon ?_
           first | exact ⟨rfail t (rEnd s t.a).1 1, ⟨by rw [if_neg (by simp [*])], rfl, rfl⟩, ⟨rfl, rfl, rfl, rfl, rfl, trivial⟩, rfl⟩ | exact ⟨t, ⟨by rw [if_pos (by simp [*])], rfl, rfl⟩, ⟨rfl, rfl, rfl, rfl, rfl, trivial⟩, rfl⟩
          ·(try rw [h8]); (try simp only [decide_eq_true_eq, decide_eq_false_iff_not, Bool.not_eq_true', Bool.not_eq_false', Int.not_lt, Int.not_le, Bool.not_true, Bool.not_false, Int.toNat_natCast, tn1, tn2, tnn, bne_iff_ne, beq_iff_eq, beq_eq_false_iff_ne, ne_eq, Decidable.not_not] at h8)
           refine AWp_skip ?_
           first | exact ⟨rfail t (rEnd s t.a).1 1, ⟨by rw [if_neg (by simp [*])], rfl, rfl⟩, ⟨rfl, rfl, rfl, rfl, rfl, trivial⟩, rfl⟩ | exact ⟨t, ⟨by rw [if_pos (by simp [*])], rfl, rfl⟩, ⟨rfl, rfl, rfl, rfl, rfl, trivial⟩, rfl⟩
         ·skip
          obtain ⟨hy1, hy2, hy3⟩ := hj
          refine AWp_seq ?_
          refine AWp_drawL #[0, 1, 3, 7, 0, 16, 48, 112, 0, 511, 1023, 2047, 4095, 4095, 0, 24575, 65535] Tryz.mixed (by decide +kernel) (by decide +kernel) ?_
          refine zd3 ?_
          refine zp1 ?_
          refine zd3 ?_
          refine zp1 ?_
          refine zd2 ?_
          simp only [Int.toNat_natCast, hy2]
          refine yP rfl rfl (zc rfl (rnum_c (s.extract t.a (rEnd s t.a).1) _ (by rw [ByteArray.size_extract]; omega))) (trivial) ?_
          refine zd3 ?_
          refine yE rfl rfl (zoa) (⟨.inr (op_callF rfl rfl rfl Tryz.func95 rfl rfl (rnum_c (s.extract t.a (rEnd s t.a).1) _ (by rw [ByteArray.size_extract]; omega))), ⟨.inr (op_load1 rfl Tryz.isAgg3 (ldv_setA hp (by rw [← hy2]; rfl))), ⟨.inr (op_load1 rfl Tryz.isAgg9 (ldv_setA hp rfl)), trivial⟩⟩⟩) (trivial) ?_
          refine yEN rfl rfl rfl (zoa) (⟨.inl rfl, ⟨.inl rfl, ⟨.inl rfl, trivial⟩⟩⟩) (⟨rfl, trivial⟩) ?_
          refine zd1 ?_
          refine RP.nil rfl ?_
          refine AWp_join (ι := RS) (fun x => x = (if (rNum (s.extract t.a (rEnd s t.a).1)).2 = 0 then (if (rEnd s t.a).2 = true then t else rfail t (rEnd s t.a).1 1) else rfail (if (rEnd s t.a).2 = true then t else rfail t (rEnd s t.a).1 1) t.a 5) ∧ x.a = t.a ∧ x.deep = t.deep) (fun x => ⟨[], [(0, .ptr p 0), (2, .ptr (σ.length + 0) 0), (3, .ptr (σ.length + 1) 0), (5, .int .i64 ((rEnd s t.a).1 : Int)), (7, .ptr (σ.length + 2) 0)]⟩) (fun x => σ.set p (rbox s x) ++ [.box [.int .i64 0, .bool false, .bool false, .str e0, .int .i64 0, .str e0, .nils, .nils], .box [.int .i64 0, .bool false, .bool false, .str e0, .int .i64 0, .str e0, .nils, .nils], .box (ncells (rNum (s.extract t.a (rEnd s t.a).1)).1)]) ?_ (fun x hj => ?_)
          ·skip
           refine zw2 ?_
           refine AWp_cond rfl (fun h9 => ?_) (fun h9 => ?_)
           ·(try rw [h9]); (try simp only [decide_eq_true_eq, decide_eq_false_iff_not, Bool.not_eq_true', Bool.not_eq_false', Int.not_lt, Int.not_le, Bool.not_true, Bool.not_false, Int.toNat_natCast, tn1, tn2, tnn, bne_iff_ne, beq_iff_eq, beq_eq_false_iff_ne, ne_eq, Decidable.not_not] at h9)
            refine AWp_regL ?_
            refine zg5 ?_
            refine zt rfl (zc rfl (callSA hp (fail_r s y p _ (get_setA hp) (y.a : Int) 5))) ?_
            refine zon ?_
            first | exact ⟨rfail y y.a 5, ⟨by rw [if_neg (by assumption), ← hy1, hy2], hy2, hy3⟩, ⟨rfl, rfl, rfl, rfl, rfl, rfl, trivial⟩, rfl⟩ | exact ⟨y, ⟨by rw [if_pos (by assumption), ← hy1], hy2, hy3⟩, ⟨rfl, rfl, rfl, rfl, rfl, rfl, trivial⟩, rfl⟩
           ·(try rw [h9]); (try simp only [decide_eq_true_eq, decide_eq_false_iff_not, Bool.not_eq_true', Bool.not_eq_false', Int.not_lt, Int.not_le, Bool.not_true, Bool.not_false, Int.toNat_natCast, tn1, tn2, tnn, bne_iff_ne, beq_iff_eq, beq_eq_false_iff_ne, ne_eq, Decidable.not_not] at h9)
            refine AWp_skip ?_
            first | exact ⟨rfail y y.a 5, ⟨by rw [if_neg (by assumption), ← hy1, hy2], hy2, hy3⟩, ⟨rfl, rfl, rfl, rfl, rfl, rfl, trivial⟩, rfl⟩ | exact ⟨y, ⟨by rw [if_pos (by assumption), ← hy1], hy2, hy3⟩, ⟨rfl, rfl, rfl, rfl, rfl, rfl, trivial⟩, rfl⟩
          ·skip
           obtain ⟨hx1, hx2, hx3⟩ := hj
           refine zw5 ?_
           refine AWp_regL ?_
           refine zv3 ?_
           have hone : rone (rval n s) s t = rnumv s t := by unfold rone; rw [if_neg (by omega), if_neg (by omega), if_neg (by omega), if_neg (by omega), if_neg (by omega), if_neg (by omega), if_pos (by omega)]
           have hnum : rnumv s t = (.mk 2 false (rNum (s.extract t.a (rEnd s t.a).1)).1 e0 [] [], ⟨(rEnd s t.a).1, x.deep, x.bad, x.spot⟩) := by rw [hx3]; unfold rnumv; rw [← hx1]
           simp only [hone, hnum]
           exact ⟨(.nils, .nils, _), ⟨nilL, nilM⟩, ⟨rfl, rfl, rfl, rfl, trivial⟩, rfl⟩
        ·rw [h7]; (try simp only [decide_eq_true_eq, decide_eq_false_iff_not, Bool.not_eq_true', Bool.not_eq_false', Int.not_lt, Int.not_le, Bool.not_true, Bool.not_false, Int.toNat_natCast, tn1, tn2, tnn, bne_iff_ne, beq_iff_eq, beq_eq_false_iff_ne, ne_eq, Decidable.not_not] at h7)
         refine zg3 ?_
         refine zsp 45 rfl (fun h10 => ?_) fun h10 => ?_
         ·rw [h10]; (try simp only [decide_eq_true_eq, decide_eq_false_iff_not, Bool.not_eq_true', Bool.not_eq_false', Int.not_lt, Int.not_le, Bool.not_true, Bool.not_false, Int.toNat_natCast, tn1, tn2, tnn, bne_iff_ne, beq_iff_eq, beq_eq_false_iff_ne, ne_eq, Decidable.not_not] at h10)
          refine zv4 ?_
          refine AWp_cond rfl (fun h11 => ?_) (fun h11 => ?_)
          ·(try rw [h11]); (try simp only [decide_eq_true_eq, decide_eq_false_iff_not, Bool.not_eq_true', Bool.not_eq_false', Int.not_lt, Int.not_le, Bool.not_true, Bool.not_false, Int.toNat_natCast, tn1, tn2, tnn, bne_iff_ne, beq_iff_eq, beq_eq_false_iff_ne, ne_eq, Decidable.not_not] at h11)
           refine AWp_seq ?_
           have hpk := pk_yes (s := s) (a := t.a) (bad := t.bad) (by omega)
           have hel := rEnd_le (s := s) (a := t.a) (by omega)
           refine AWp_drawL #[0, 1, 3, 7, 0, 16, 48, 112, 255, 511, 1023, 1023, 2047, 8191] Tryz.mixed (by decide +kernel) (by decide +kernel) ?_
           refine zd3 ?_
           refine zp1 ?_
           refine zd3 ?_
           refine zp1 ?_
           refine yP rfl rfl (zc rfl (end_c s t.a _ (by omega) (by omega))) (trivial) ?_
           refine zd5 ?_
           refine RP.nil rfl ?_
           refine AWp_join (ι := RS) (fun y => y = (if (rEnd s t.a).2 = true then t else rfail t (rEnd s t.a).1 1) ∧ y.a = t.a ∧ y.deep = t.deep) (fun y => ⟨[], [(0, .ptr p 0), (2, .ptr (σ.length + 0) 0), (3, .ptr (σ.length + 1) 0), (5, .int .i64 ((rEnd s t.a).1 : Int))]⟩) (fun y => σ.set p (rbox s y) ++ [.box [.int .i64 0, .bool false, .bool false, .str e0, .int .i64 0, .str e0, .nils, .nils], .box [.int .i64 0, .bool false, .bool false, .str e0, .int .i64 0, .str e0, .nils, .nils]]) ?_ (fun y hj => ?_)
           ·skip
            refine zw2 ?_
            refine AWp_cond rfl (fun h12 => ?_) (fun h12 => ?_)
            ·(try rw [h12]); (try simp only [decide_eq_true_eq, decide_eq_false_iff_not, Bool.not_eq_true', Bool.not_eq_false', Int.not_lt, Int.not_le, Bool.not_true, Bool.not_false, Int.toNat_natCast, tn1, tn2, tnn, bne_iff_ne, beq_iff_eq, beq_eq_false_iff_ne, ne_eq, Decidable.not_not] at h12)
             refine AWp_regL ?_
             refine zg2 ?_
             refine zt rfl (zc rfl (callSA hp (fail_r s t p _ (get_setA hp) ((rEnd s t.a).1 : Int) 1))) ?_
             refine zon ?_
             first | exact ⟨rfail t (rEnd s t.a).1 1, ⟨by rw [if_neg (by simp [*])], rfl, rfl⟩, ⟨rfl, rfl, rfl, rfl, rfl, trivial⟩, rfl⟩ | exact ⟨t, ⟨by rw [if_pos (by simp [*])], rfl, rfl⟩, ⟨rfl, rfl, rfl, rfl, rfl, trivial⟩, rfl⟩
            ·(try rw [h12]); (try simp only [decide_eq_true_eq, decide_eq_false_iff_not, Bool.not_eq_true', Bool.not_eq_false', Int.not_lt, Int.not_le, Bool.not_true, Bool.not_false, Int.toNat_natCast, tn1, tn2, tnn, bne_iff_ne, beq_iff_eq, beq_eq_false_iff_ne, ne_eq, Decidable.not_not] at h12)
             refine AWp_skip ?_
             first | exact ⟨rfail t (rEnd s t.a).1 1, ⟨by rw [if_neg (by simp [*])], rfl, rfl⟩, ⟨rfl, rfl, rfl, rfl, rfl, trivial⟩, rfl⟩ | exact ⟨t, ⟨by rw [if_pos (by simp [*])], rfl, rfl⟩, ⟨rfl, rfl, rfl, rfl, rfl, trivial⟩, rfl⟩
           ·skip
            obtain ⟨hy1, hy2, hy3⟩ := hj
            refine AWp_seq ?_
            refine AWp_drawL #[0, 1, 3, 7, 0, 16, 48, 112, 0, 511, 1023, 2047, 4095, 4095, 0, 24575, 65535] Tryz.mixed (by decide +kernel) (by decide +kernel) ?_
            refine zd3 ?_
            refine zp1 ?_
            refine zd3 ?_
            refine zp1 ?_
            refine zd2 ?_
            simp only [Int.toNat_natCast, hy2]
            refine yP rfl rfl (zc rfl (rnum_c (s.extract t.a (rEnd s t.a).1) _ (by rw [ByteArray.size_extract]; omega))) (trivial) ?_
            refine zd3 ?_
            refine yE rfl rfl (zoa) (⟨.inr (op_callF rfl rfl rfl Tryz.func95 rfl rfl (rnum_c (s.extract t.a (rEnd s t.a).1) _ (by rw [ByteArray.size_extract]; omega))), ⟨.inr (op_load1 rfl Tryz.isAgg3 (ldv_setA hp (by rw [← hy2]; rfl))), ⟨.inr (op_load1 rfl Tryz.isAgg9 (ldv_setA hp rfl)), trivial⟩⟩⟩) (trivial) ?_
            refine yEN rfl rfl rfl (zoa) (⟨.inl rfl, ⟨.inl rfl, ⟨.inl rfl, trivial⟩⟩⟩) (⟨rfl, trivial⟩) ?_
            refine zd1 ?_
            refine RP.nil rfl ?_
            refine AWp_join (ι := RS) (fun x => x = (if (rNum (s.extract t.a (rEnd s t.a).1)).2 = 0 then (if (rEnd s t.a).2 = true then t else rfail t (rEnd s t.a).1 1) else rfail (if (rEnd s t.a).2 = true then t else rfail t (rEnd s t.a).1 1) t.a 5) ∧ x.a = t.a ∧ x.deep = t.deep) (fun x => ⟨[], [(0, .ptr p 0), (2, .ptr (σ.length + 0) 0), (3, .ptr (σ.length + 1) 0), (5, .int .i64 ((rEnd s t.a).1 : Int)), (7, .ptr (σ.length + 2) 0)]⟩) (fun x => σ.set p (rbox s x) ++ [.box [.int .i64 0, .bool false, .bool false, .str e0, .int .i64 0, .str e0, .nils, .nils], .box [.int .i64 0, .bool false, .bool false, .str e0, .int .i64 0, .str e0, .nils, .nils], .box (ncells (rNum (s.extract t.a (rEnd s t.a).1)).1)]) ?_ (fun x hj => ?_)
            ·skip
             refine zw2 ?_
             refine AWp_cond rfl (fun h13 => ?_) (fun h13 => ?_)
             ·(try rw [h13]); (try simp only [decide_eq_true_eq, decide_eq_false_iff_not, Bool.not_eq_true', Bool.not_eq_false', Int.not_lt, Int.not_le, Bool.not_true, Bool.not_false, Int.toNat_natCast, tn1, tn2, tnn, bne_iff_ne, beq_iff_eq, beq_eq_false_iff_ne, ne_eq, Decidable.not_not] at h13)
              refine AWp_regL ?_
              refine zg5 ?_
              refine zt rfl (zc rfl (callSA hp (fail_r s y p _ (get_setA hp) (y.a : Int) 5))) ?_
              refine zon ?_
              first | exact ⟨rfail y y.a 5, ⟨by rw [if_neg (by assumption), ← hy1, hy2], hy2, hy3⟩, ⟨rfl, rfl, rfl, rfl, rfl, rfl, trivial⟩, rfl⟩ | exact ⟨y, ⟨by rw [if_pos (by assumption), ← hy1], hy2, hy3⟩, ⟨rfl, rfl, rfl, rfl, rfl, rfl, trivial⟩, rfl⟩
             ·(try rw [h13]); (try simp only [decide_eq_true_eq, decide_eq_false_iff_not, Bool.not_eq_true', Bool.not_eq_false', Int.not_lt, Int.not_le, Bool.not_true, Bool.not_false, Int.toNat_natCast, tn1, tn2, tnn, bne_iff_ne, beq_iff_eq, beq_eq_false_iff_ne, ne_eq, Decidable.not_not] at h13)
              refine AWp_skip ?_
              first | exact ⟨rfail y y.a 5, ⟨by rw [if_neg (by assumption), ← hy1, hy2], hy2, hy3⟩, ⟨rfl, rfl, rfl, rfl, rfl, rfl, trivial⟩, rfl⟩ | exact ⟨y, ⟨by rw [if_pos (by assumption), ← hy1], hy2, hy3⟩, ⟨rfl, rfl, rfl, rfl, rfl, rfl, trivial⟩, rfl⟩
            ·skip
             obtain ⟨hx1, hx2, hx3⟩ := hj
             refine zw5 ?_
             refine AWp_regL ?_
             refine zv3 ?_
             have hone : rone (rval n s) s t = rnumv s t := by unfold rone; rw [if_neg (by omega), if_neg (by omega), if_neg (by omega), if_neg (by omega), if_neg (by omega), if_neg (by omega), if_pos (by omega)]
             have hnum : rnumv s t = (.mk 2 false (rNum (s.extract t.a (rEnd s t.a).1)).1 e0 [] [], ⟨(rEnd s t.a).1, x.deep, x.bad, x.spot⟩) := by rw [hx3]; unfold rnumv; rw [← hx1]
             simp only [hone, hnum]
             exact ⟨(.nils, .nils, _), ⟨nilL, nilM⟩, ⟨rfl, rfl, rfl, rfl, trivial⟩, rfl⟩
          ·(try rw [h11]); (try simp only [decide_eq_true_eq, decide_eq_false_iff_not, Bool.not_eq_true', Bool.not_eq_false', Int.not_lt, Int.not_le, Bool.not_true, Bool.not_false, Int.toNat_natCast, tn1, tn2, tnn, bne_iff_ne, beq_iff_eq, beq_eq_false_iff_ne, ne_eq, Decidable.not_not] at h11)
           refine AWp_regL ?_
           refine zg5 ?_
           refine zt rfl (zc rfl (callSA hp (fail_r s t p _ (get_setA hp) (t.a : Int) 1))) ?_
           refine zon ?_
           have hone : rone (rval n s) s t = (vz, rfail t t.a 1) := by unfold rone; rw [if_neg (by omega), if_neg (by omega), if_neg (by omega), if_neg (by omega), if_neg (by omega), if_neg (by omega), if_neg (by omega)]
           simp only [hone]
           exact ⟨(.nils, .nils, _), ⟨nilL, nilM⟩, ⟨rfl, rfl, rfl, rfl, trivial⟩, rfl⟩
         ·rw [h10]; (try simp only [decide_eq_true_eq, decide_eq_false_iff_not, Bool.not_eq_true', Bool.not_eq_false', Int.not_lt, Int.not_le, Bool.not_true, Bool.not_false, Int.toNat_natCast, tn1, tn2, tnn, bne_iff_ne, beq_iff_eq, beq_eq_false_iff_ne, ne_eq, Decidable.not_not] at h10)
          refine zv4 ?_
          refine AWp_condF rfl ?_
          refine AWp_regL ?_
          refine zg5 ?_
          refine zt rfl (zc rfl (callSA hp (fail_r s t p _ (get_setA hp) (t.a : Int) 1))) ?_
          refine zon ?_
          have hone : rone (rval n s) s t = (vz, rfail t t.a 1) := by unfold rone; rw [if_neg (by omega), if_neg (by omega), if_neg (by omega), if_neg (by omega), if_neg (by omega), if_neg (by omega), if_neg (by omega)]
          simp only [hone]
          exact ⟨(.nils, .nils, _), ⟨nilL, nilM⟩, ⟨rfl, rfl, rfl, rfl, trivial⟩, rfl⟩
 ·skip
  obtain ⟨L, M, w⟩ := z
  obtain ⟨hL, hM⟩ := hj
  simp only at hL hM ⊢
  refine AWp_seq ?_
  have hok := rone_ok hs (fun r h => rval_ok hs n r h) hb1.ok
  refine AWp_boxLeS 1 (bs' := [.int .i64 (rone (rval n s) s t).1.kind, .bool (rone (rval n s) s t).1.b, .bool (rone (rval n s) s t).1.n.neg, .str (rone (rval n s) s t).1.n.digits, .int .i64 (rone (rval n s) s t).1.n.exp, .str (rone (rval n s) s t).1.s, .sl false 8 (lcells (rone (rval n s) s t).1.l), .sl false 9 (mcells (rone (rval n s) s t).1.m)]) rfl ⟨AVle.refl _, AVle.refl _, AVle.refl _, AVle.refl _, AVle.refl _, AVle.refl _, hL, hM, trivial⟩ ?_
  refine AWp_regL ?_
  refine zg1 ?_
  refine zt rfl (zc rfl (callSA hp (blank_r s (rone (rval n s) s t).2 p _ (get_setA hp) hs hok.fwd.ok))) ?_
  refine zon ?_
  refine zw2 ?_
  refine zrt ?_
  rw [hres, vcells_eq]
  exact RQ_retS (rkvs_cons (rkv_ckS rfl rfl rfl) rfl) (x := rbox s (rblank s (rone (rval n s) s t).2)) hcl (by simp [AO.cells, AV.ltL, AV.lt]) (by simp [rks, AV.lt, AV.ltL]) ⟨rfl, rfl⟩
end Lg
set_option maxRecDepth 20000
set_option maxHeartbeats 4000000
namespace Lg
open Go Go.Proofs Go.RowKit
variable [GLay] 
theorem rpar_c (s : ByteArray) (hs : s.size ≤ 100000) (p : Nat) (σ : List AO) (hσ : σ[p]? = some (rbox s ⟨0, 0, 0, 0⟩)) : ACalls Tryz.prog 61 [.ptr p 0] σ (Ret (.agg (vcells (rpar s).1)) (σ.set p (rbox s (rpar s).2))) := value_r s hs (s.size + 2) ⟨0, 0, 0, 0⟩ p σ hσ ⟨Nat.zero_le _, fun _ => Nat.zero_le _, Int.le_refl _, Int.le_refl _⟩ (by dsimp only; omega)
theorem parse_c (s : ByteArray) (σ : List AO) (hs : s.size ≤ 100000) : ACalls Tryz.prog 30 [.str s] σ (Ret (.tup [.agg (vcells (rParse s).1), .int .i64 (rParse s).2.1, .int .i64 (rParse s).2.2]) σ) := by
 refine ACalls_bodyC Tryz.func30 rfl Tryz.ntmps30 (by rw [Tryz.results30]; exact (.ck Tryz.isAgg28 Tryz.sizeOf28 (.t (.t .nil)))) (Nat.le_of_ble_eq_true rfl) (fun hcl hal => ?_)
 refine zw3 ?_
 refine AWp_seq ?_
 refine zw3 ?_
 refine AWp_cond rfl (fun h1 => ?_) (fun h1 => ?_)
 ·(try rw [h1]); replace h1 := zcl h1
  refine zw4 ?_
  refine AWp_boxLeO 0 (bs' := [.int .i64 vz.kind, .bool vz.b, .bool vz.n.neg, .str vz.n.digits, .int .i64 vz.n.exp, .str vz.s, .sl false 8 (lcells vz.l), .sl false 9 (mcells vz.m)]) rfl ⟨AVle.refl _, AVle.refl _, AVle.refl _, AVle.refl _, AVle.refl _, AVle.refl _, nilL, nilM, trivial⟩ ?_
  refine zrt ?_
  have hE : rParse s = (vz, 5, 20000) := by unfold rParse; rw [if_pos (by omega)]
  rw [hE, vcells_eq]; exact RQ_ret (rkvs_cons (rkv_ck rfl rfl rfl) (rkvs_cons (rkv_t rfl) (rkvs_cons (rkv_t rfl) rfl))) hcl (by simp [rks, AV.lt, AV.ltL, ofConst1, ncells]) ⟨rfl, rfl⟩
 ·(try rw [h1]); replace h1 := zcl h1
  refine AWp_skip ?_
  refine zw4 ?_
  refine zu1 ?_
  refine zt rfl (zc rfl (callO 1 (rpar_c s hs (σ.length + 1) _ (by rw [get_ownT rfl]; rfl)))) ?_
  rw [vcells_eq (rpar s).1]
  refine zv2 ?_
  refine AWp_join (ι := Unit) (fun b => True) (fun b => ⟨[], [(0, .str s), (2, .ptr (σ.length + 0) 0), (5, .ptr (σ.length + 1) 0), (6, .ptr (σ.length + 2) 0)]⟩) (fun b => σ ++ [.box [.int .i64 0, .bool false, .bool false, .str e0, .int .i64 0, .str e0, .nils, .nils], rbox s (rparE s), .box [.int .i64 (rpar s).1.kind, .bool (rpar s).1.b, .bool (rpar s).1.n.neg, .str (rpar s).1.n.digits, .int .i64 (rpar s).1.n.exp, .str (rpar s).1.s, .sl false 8 (lcells (rpar s).1.l), .sl false 9 (mcells (rpar s).1.m)]]) ?_ (fun b hj => ?_)
  ·skip
   refine zu6 ?_
   refine zsp 21 rfl (fun h2 => ?_) fun h2 => ?_
   ·rw [h2]; replace h2 := zcl h2
    refine zv8 ?_
    refine AWp_cond rfl (fun h3 => ?_) (fun h3 => ?_)
    ·(try rw [h3]); replace h3 := zcl h3
     refine AWp_regL ?_
     refine zg5 ?_
     refine zt rfl (zc rfl (callO 1 (fail_r s (rpar s).2 (σ.length + 1) _ (by rw [get_ownT rfl]; rfl) ((rpar s).2.a : Int) 1))) ?_
     refine zon ?_
     refine ⟨(), trivial, ⟨rfl, rfl, rfl, rfl, rfl, trivial⟩, ?_⟩
     unfold rparE; first | (rw [if_pos ⟨by omega, by omega⟩]; rfl) | (rw [if_neg (by omega)]; rfl)
    ·(try rw [h3]); replace h3 := zcl h3
     refine AWp_skip ?_
     refine ⟨(), trivial, ⟨rfl, rfl, rfl, rfl, rfl, trivial⟩, ?_⟩
     unfold rparE; first | (rw [if_pos ⟨by omega, by omega⟩]; rfl) | (rw [if_neg (by omega)]; rfl)
   ·rw [h2]; replace h2 := zcl h2
    refine zv8 ?_
    refine AWp_condF rfl ?_
    refine AWp_skip ?_
    refine ⟨(), trivial, ⟨rfl, rfl, rfl, rfl, rfl, trivial⟩, ?_⟩
    unfold rparE; first | (rw [if_pos ⟨by omega, by omega⟩]; rfl) | (rw [if_neg (by omega)]; rfl)
  ·skip
   refine AWp_seq ?_
   refine zw5 ?_
   refine AWp_cond rfl (fun h4 => ?_) (fun h4 => ?_)
   ·(try rw [h4]); replace h4 := zcl h4
    refine AWp_seq ?_
    refine AWp_drawL #[0, 0, 2, 6, 14, 0, 32, 96, 224, 1, 543, 2047] Tryz.mixed (by decide +kernel) (by decide +kernel) ?_
    refine zd4 ?_
    refine zp1 ?_
    refine zd3 ?_
    refine zp1 ?_
    refine yEN rfl rfl rfl (zoa) (⟨.inr (op_load1 rfl Tryz.isAgg3 (ldv_own rfl rfl)), ⟨.inr (op_load1 rfl Tryz.isAgg3 (ldv_own rfl rfl)), trivial⟩⟩) (trivial) ?_
    refine zd2 ?_
    refine RP.nil rfl ?_
    refine AWp_boxLeO 0 (bs' := [.int .i64 vz.kind, .bool vz.b, .bool vz.n.neg, .str vz.n.digits, .int .i64 vz.n.exp, .str vz.s, .sl false 8 (lcells vz.l), .sl false 9 (mcells vz.m)]) rfl ⟨AVle.refl _, AVle.refl _, AVle.refl _, AVle.refl _, AVle.refl _, AVle.refl _, nilL, nilM, trivial⟩ ?_
    refine zrt ?_
    have hE : rParse s = (vz, (rparE s).bad, (rparE s).spot) := by unfold rParse; rw [if_neg (by omega), if_neg (by assumption)]
    rw [hE, vcells_eq]; exact RQ_ret (rkvs_cons (rkv_ck rfl rfl rfl) (rkvs_cons (rkv_t rfl) (rkvs_cons (rkv_t rfl) rfl))) hcl (by simp [rks, AV.lt, AV.ltL, ofConst1, ncells]) ⟨rfl, rfl⟩
   ·(try rw [h4]); replace h4 := zcl h4
    refine AWp_skip ?_
    refine zw4 ?_
    refine zrt ?_
    have hE : rParse s = ((rpar s).1, 0, 0) := by unfold rParse; rw [if_neg (by omega), if_pos (by assumption)]
    rw [hE, vcells_eq]; exact RQ_ret (rkvs_cons (rkv_ck rfl rfl rfl) (rkvs_cons (rkv_t rfl) (rkvs_cons (rkv_t rfl) rfl))) hcl (by simp [rks, AV.lt, AV.ltL, ofConst1, ncells]) ⟨rfl, rfl⟩

theorem value_c (s : ByteArray) (σ : List AO) : ACalls Tryz.prog 11 [.str s] σ (Ret (.tup [.agg (vcells (rValue s).1), .int .i64 (rValue s).2]) σ) := by
 refine ACalls_bodyC Tryz.func11 rfl Tryz.ntmps11 (by rw [Tryz.results11]; exact (.ck Tryz.isAgg28 Tryz.sizeOf28 (.t .nil))) (Nat.le_of_ble_eq_true rfl) (fun hcl hal => ?_)
 refine zw2 ?_
 refine AWp_seq ?_
 refine zw3 ?_
 refine AWp_cond rfl (fun h1 => ?_) (fun h1 => ?_)
 ·(try rw [h1]); replace h1 := zcl h1
  refine zw3 ?_
  refine AWp_boxLeO 0 (bs' := [.int .i64 vz.kind, .bool vz.b, .bool vz.n.neg, .str vz.n.digits, .int .i64 vz.n.exp, .str vz.s, .sl false 8 (lcells vz.l), .sl false 9 (mcells vz.m)]) rfl ⟨AVle.refl _, AVle.refl _, AVle.refl _, AVle.refl _, AVle.refl _, AVle.refl _, nilL, nilM, trivial⟩ ?_
  refine zrt ?_
  have hE : rValue s = (vz, 0) := by unfold rValue; rw [if_pos (by omega)]
  rw [hE, vcells_eq]; exact RQ_ret (rkvs_cons (rkv_ck rfl rfl rfl) (rkvs_cons (rkv_t rfl) rfl)) hcl (by simp [rks, AV.lt, AV.ltL, ofConst1, ncells]) ⟨rfl, rfl⟩
 ·(try rw [h1]); replace h1 := zcl h1
  refine AWp_skip ?_
  refine zu1 ?_
  refine zt rfl (zc rfl (parse_c s _ (by omega))) ?_
  rw [vcells_eq (rParse s).1]
  refine zv8 ?_
  refine AWp_seq ?_
  refine zw2 ?_
  refine AWp_cond rfl (fun h2 => ?_) (fun h2 => ?_)
  ·(try rw [h2]); replace h2 := zcl h2
   refine zw3 ?_
   refine AWp_boxLeO 0 (bs' := [.int .i64 vz.kind, .bool vz.b, .bool vz.n.neg, .str vz.n.digits, .int .i64 vz.n.exp, .str vz.s, .sl false 8 (lcells vz.l), .sl false 9 (mcells vz.m)]) rfl ⟨AVle.refl _, AVle.refl _, AVle.refl _, AVle.refl _, AVle.refl _, AVle.refl _, nilL, nilM, trivial⟩ ?_
   refine zrt ?_
   have hE : rValue s = (vz, 0) := by unfold rValue; rw [if_neg (by omega), if_neg (by assumption)]
   rw [hE, vcells_eq]; exact RQ_ret (rkvs_cons (rkv_ck rfl rfl rfl) (rkvs_cons (rkv_t rfl) rfl)) hcl (by simp [rks, AV.lt, AV.ltL, ofConst1, ncells]) ⟨rfl, rfl⟩
  ·(try rw [h2]); replace h2 := zcl h2
   refine AWp_skip ?_
   refine zw3 ?_
   refine zrt ?_
   have hE : rValue s = ((rParse s).1, 1) := by unfold rValue; rw [if_neg (by omega), if_pos (by assumption)]
   rw [hE, vcells_eq]; exact RQ_ret (rkvs_cons (rkv_ck rfl rfl rfl) (rkvs_cons (rkv_t rfl) rfl)) hcl (by simp [rks, AV.lt, AV.ltL, ofConst1, ncells]) ⟨rfl, rfl⟩
end Lg
set_option maxRecDepth 20000
set_option maxHeartbeats 4000000
namespace Lg
open Go Go.Proofs Go.RowKit
variable [GLay] 
theorem rsameQ_c (v : JV) (cs : List AV) (σ : List AO) (hc : vcells v = cs) (hjb : jb v) : ACalls Tryz.prog 17 [.agg cs, .agg cs] σ (Ret (.bool true) σ) := by
  subst hc
  have h := rsame_any (jsize v).toNat v v σ (by have := jsize_pos v; omega) hjb hjb
  rwa [pb_t rfl] at h
theorem op_eqGerr {P : Program} {σ : List AO} {e : Env} {o : Oper} {T T' : TypeId} {x : Operand} {ms : Array (String × TypeId)} {z : Bool} (ho : o.op = .binOp .eql T x (.const .nilIface) T') (hu : P.underlying T = some (.interface ms)) (hx : opO e x = some (gerr z)) : AOp P σ e o (.bool z) σ := by
  cases z with
  | true => exact op_eqINil ho hu hx
  | false => exact op_eqIN ho hu hx
theorem pN_ok (s : BL) : (pN s).length ≤ s.length + 1 ∧ ∀ x ∈ pN s, x.length ≤ s.length := by
  cases h : pE s with
  | none => exact pN_len h
  | some i =>
    by_cases h0 : s = []
    · subst h0; exact ⟨Nat.zero_le _, fun x hx => by simp [pN] at hx⟩
    · rw [pN_bad h0 h]; exact ⟨Nat.zero_le _, fun x hx => by cases hx⟩
end Lg
set_option maxRecDepth 20000
set_option maxHeartbeats 4000000
namespace Lg
open Go Go.Proofs Go.RowKit
variable [GLay] 
noncomputable def ptQ (s : ByteArray) : List BL × Int := open Classical in if (s.size ≤ 500 ∧ Utf s) ∧ pE s.data.toList = none then (pN s.data.toList, 1) else ([], 0)
theorem ptQ_y {s : ByteArray} (h1 : s.size ≤ 500) (h2 : Utf s) (h3 : ¬ pEi s.data.toList ≥ 0) : ptQ s = (pN s.data.toList, 1) := by
  have h4 : pE s.data.toList = none := by
    cases h : pE s.data.toList with
    | none => rfl
    | some i => rw [pEi_s h] at h3; omega
  unfold ptQ; rw [if_pos ⟨⟨h1, h2⟩, h4⟩]
theorem ptQ_n {s : ByteArray} (h : ¬ (s.size ≤ 500 ∧ Utf s)) : ptQ s = ([], 0) := by
  unfold ptQ; rw [if_neg (fun e => h e.1)]
theorem ptQ_e {s : ByteArray} (h : pEi s.data.toList ≥ 0) : ptQ s = ([], 0) := by
  unfold ptQ; rw [if_neg (fun e => by rw [pEi_n e.2] at h; omega)]
theorem ptrL_c (s : ByteArray) (σ : List AO) (hs : s.size ≤ 140737488355328) : ACalls Tryz.prog 12 [.str s] σ (Ret (.tup [.sl false 1 (srow (ptQ s).1), .int .i64 (ptQ s).2]) σ) := by
 refine ACalls_body Tryz.func12 rfl Tryz.ntmps12 (res2 Tryz.results12) (Nat.le_of_ble_eq_true rfl) (fun hcl hal => ?_)
 refine zw2 ?_
 refine zu1 ?_
 refine zt rfl (zc rfl (text_c s _ hs)) ?_
 refine zv1 ?_
 refine AWp_seq ?_
 refine zu4 ?_
 refine zsp 12 rfl (fun h1 => ?_) fun h1 => ?_
 ·rw [h1]; replace h1 := zcl h1
  refine zv3 ?_
  refine AWp_condT rfl ?_
  refine zw2 ?_
  refine AWp_slotLe 2 rfl (AVle.nils false 1) ?_ (by decide)
  refine zrt ?_
  rw [ptQ_n (fun e => by omega)]
  exact ResQ_20 rfl rfl hcl (by simp [rks, AV.lt, AV.ltL, AV.ltLL]) ⟨rfl, rfl⟩
 ·rw [h1]; replace h1 := zcl h1
  refine zv3 ?_
  refine AWp_cond rfl (fun h2 => ?_) (fun h2 => ?_)
  ·(try rw [h2]); replace h2 := zcl h2
   refine zw2 ?_
   refine AWp_slotLe 2 rfl (AVle.nils false 1) ?_ (by decide)
   refine zrt ?_
   rw [ptQ_n (fun e => by rw [pb_t e.2] at h2; cases h2)]
   exact ResQ_20 rfl rfl hcl (by simp [rks, AV.lt, AV.ltL, AV.ltLL]) ⟨rfl, rfl⟩
  ·(try rw [h2]); replace h2 := zcl h2
   refine AWp_skip ?_
   refine zu1 ?_
   refine zt rfl (zc rfl (rptrQ_c s _ (by omega))) ?_
   refine zv5 ?_
   refine AWp_seq ?_
   refine zw2 ?_
   refine AWp_cond rfl (fun h3 => ?_) (fun h3 => ?_)
   ·(try rw [h3]); replace h3 := zcl h3
    refine zw2 ?_
    refine AWp_slotLe 2 rfl (AVle.nils false 1) ?_ (by decide)
    refine zrt ?_
    rw [ptQ_e (by assumption)]
    exact ResQ_20 rfl rfl hcl (by simp [rks, AV.lt, AV.ltL, AV.ltLL]) ⟨rfl, rfl⟩
   ·(try rw [h3]); replace h3 := zcl h3
    refine AWp_skip ?_
    refine zw3 ?_
    refine zrt ?_
    rw [ptQ_y (s := s) (by omega) ((pb_iff _).1 h2) (by omega)]
    exact ResQ_20 rfl rfl hcl (by simp [rks, AV.lt, AV.ltL, AV.ltLL]) ⟨rfl, rfl⟩
end Lg
set_option maxRecDepth 20000
set_option maxHeartbeats 4000000
namespace Lg
open Go Go.Proofs Go.RowKit
variable [GLay] 
end Lg
set_option maxRecDepth 20000
set_option maxHeartbeats 4000000
namespace Lg
open Go Go.Proofs Go.RowKit
variable [GLay] 
end Lg
namespace Lg
open Go
/-! ### Two objects of the caller's that are written -/
section
variable {σ : List AO} {p q : Nat} {x y : AO}
end
section
variable [GLay]
variable {σ : List AO} {p q : Nat} {x y : AO}
end
section
variable [GLay]
/-- What Look asks of what was seen, of the trees, and of the heap. -/
structure SP (v : JV) (id deep frm nw lst : Int) (M : List (Int × AV)) (p q : Nat) (σ : List AO) : Prop where
  hp : σ[p]? = some (.box [.mapv q, .int .i64 frm, .int .i64 nw, .int .i64 lst])
  hq : σ[q]? = some (.map (imap M))
  key : ∀ a ∈ M, a.1 < id
  ml : ∀ k, ∀ a ∈ M, a.2.lt k
  len : (M.length : Int) + jsize v ≤ 20000
  d0 : 0 ≤ deep
  dd : deep + jdepth v ≤ 40
  i0 : 0 ≤ id
  ib : id + jsize v ≤ 1000000000
  f : frm ≤ id
  n0 : 0 ≤ nw
  nb : nw + jsize v ≤ 1000000
def spost (σ : List AO) (p q : Nat) (v : JV) (id frm nw lst : Int) (M : List (Int × AV)) : List AO :=
  (σ.set p (.box [.mapv q, .int .i64 frm, .int .i64 (nw + jsize v), .int .i64 (max lst (id + jsize v - 1))])).set q (.map (imap (M ++ seenV v id)))
theorem SP.ne {v : JV} {id deep frm nw lst : Int} {M : List (Int × AV)} {p q : Nat} {σ : List AO} (h : SP v id deep frm nw lst M p q σ) : p ≠ q := fun e => by
  have h1 := h.hp; have h2 := h.hq
  rw [e, h2] at h1; cases h1
theorem SP.none {v : JV} {id deep frm nw lst : Int} {M : List (Int × AV)} {p q : Nat} {σ : List AO} (h : SP v id deep frm nw lst M p q σ) (K : List JV) : iget (M ++ seenL K (id + 1)) id = none :=
  iget_none fun a ha e => by
    rcases List.mem_append.1 ha with ha | ha
    · have := h.key a ha; omega
    · have := seenL_key _ _ a ha; omega
theorem SP.below {v : JV} {id deep frm nw lst : Int} {M : List (Int × AV)} {p q : Nat} {σ : List AO} (h : SP v id deep frm nw lst M p q σ) (K : List JV) : ∀ a ∈ M ++ seenL K (id + 1), a.1 < id + 1 + lsize K := fun a ha => by
  have := lsize_nn K
  rcases List.mem_append.1 ha with ha | ha
  · have := h.key a ha; omega
  · have := seenL_key _ _ a ha; omega
theorem SP.lt {v : JV} {id deep frm nw lst : Int} {M : List (Int × AV)} {p q : Nat} {σ : List AO} (h : SP v id deep frm nw lst M p q σ) (k : Nat) (K : List JV) : AV.ltL k (mflat (imap (M ++ seenL K (id + 1)))) :=
  imap_lt k _ fun a ha => by
    rcases List.mem_append.1 ha with ha | ha
    · exact h.ml k a ha
    · exact seenL_lt k _ _ a ha
end
end Lg
namespace Lg
open Go
def ex16 : ByteArray := ⟨#[91, 49, 93]⟩
section
variable [GLay] {P : Program} {σ l : List AO} {e : Env} {o : Oper} {f : FuncId} {args : List AV} {v : AV} {x y : AO}
end
end Lg
namespace Lg
open Go
/-! ### The reference's lists, plainly -/
section
variable {last : Bool} {op : Int} {k : Nat} {x y : JV} {l : List JV}
theorem eA_pre (hk : k ≤ l.length) : ∀ i, i ≤ k → eA last op k x y l i = l.take i
  | 0, _ => by simp [eA]
  | i + 1, h => by
    have hx : l[i]? = some l[i] := List.getElem?_eq_getElem (by omega)
    rw [eA, eA_pre hk i (by omega), eIns_n (by rintro ⟨h1, _, _⟩; omega), eOld_ne hx (by omega), List.append_nil, ltake_succ hx]
theorem eA_post (hk : k < l.length) : ∀ d, k + 1 + d ≤ l.length → eA last op k x y l (k + 1 + d) = eA last op k x y l (k + 1) ++ (l.drop (k + 1)).take d
  | 0, _ => by simp
  | d + 1, h => by
    have hx : l[k + 1 + d]? = some l[k + 1 + d] := List.getElem?_eq_getElem (by omega)
    have hx2 : (l.drop (k + 1))[d]? = some l[k + 1 + d] := by rw [List.getElem?_drop]; exact hx
    rw [show k + 1 + (d + 1) = (k + 1 + d) + 1 by omega, eA, eA_post hk d (by omega), eIns_n (by rintro ⟨h1, _, _⟩; omega), eOld_ne hx (by omega), List.append_nil, ltake_succ hx2, List.append_assoc]
theorem eA_all (hk : k < l.length) : eA last op k x y l (l.length + 1) = l.take k ++ (eIns last op k x k ++ eOld last op k y l k) ++ l.drop (k + 1) := by
  have h := eA_post (last := last) (op := op) (x := x) (y := y) hk (l.length - (k + 1)) (by omega)
  rw [show k + 1 + (l.length - (k + 1)) = l.length by omega, List.take_of_length_le (by simp)] at h
  rw [eA, eIns_n (by rintro ⟨h1, _, _⟩; omega), eOld_end (List.getElem?_eq_none (Nat.le_refl _)), List.append_nil, List.append_nil, h, eA, eA_pre (by omega) k (Nat.le_refl _), List.append_assoc (l.take k)]
theorem eA_set (hk : k < l.length) : eA false op k x y l (l.length + 1) = l.set k y := by
  rw [eA_all hk, eIns_n (by rintro ⟨_, h, _⟩; cases h), eOld_ed (List.getElem?_eq_getElem hk) rfl rfl, List.set_eq_take_append_cons_drop, if_pos hk]; simp
theorem eA_ins (hk : k ≤ l.length) : eA true 1 k x y l (l.length + 1) = l.take k ++ x :: l.drop k := by
  by_cases h : k = l.length
  · subst h
    rw [eA, eA_pre (Nat.le_refl _) _ (Nat.le_refl _), eIns_y ⟨rfl, rfl, by decide⟩, eOld_end (List.getElem?_eq_none (Nat.le_refl _))]; simp
  · have hk' : k < l.length := by omega
    rw [eA_all hk', eIns_y ⟨rfl, rfl, by decide⟩, eOld_keep (List.getElem?_eq_getElem hk') rfl rfl, List.drop_eq_getElem_cons hk']; simp
theorem eA_del (hk : k < l.length) : eA true 2 k x y l (l.length + 1) = l.take k ++ l.drop (k + 1) := by
  rw [eA_all hk, eIns_n (by rintro ⟨_, _, h⟩; exact h rfl), eOld_del rfl rfl (by decide)]; simp
theorem eA_rep (hk : k < l.length) : eA true 3 k x y l (l.length + 1) = l.set k x := by
  rw [eA_all hk, eIns_y ⟨rfl, rfl, by decide⟩, eOld_del rfl rfl (by decide), List.set_eq_take_append_cons_drop, if_pos hk]; simp
end
section
variable [GLay] {last : Bool} {op : Int} {key : ByteArray} {x : JV} {f : JV → JV}
theorem blt_ne {a b : ByteArray} (h : blt a b = true) : ¬ a = b := fun e => by subst e; rw [blt_irr] at h; cases h
theorem blt_asym {a b : ByteArray} (h : blt a b = true) : blt b a = false := blt_le (by rw [h]; rfl)
/-- All members behind the key's place. -/
theorem eM_above : ∀ (m : List BJ) (put : Bool), (∀ q ∈ m, blt key q.1 = true) → eM last op key x f m put = (if (last && decide (op ≠ 2) && !put) = true then [(key, x)] else []) ++ m
  | [], put, _ => by rw [eM, List.append_nil]
  | q :: r, put, h => by
    have hq := h q (List.mem_cons_self ..)
    have hi : eMi last op key q.1 put = (last && decide (op ≠ 2) && !put) := by unfold eMi; rw [blt_asym hq]; simp
    have hr : (last && decide (op ≠ 2) && !(put || eMi last op key q.1 put)) = false := by rw [hi]; cases last <;> cases put <;> simp
    have hne : ¬ q.1 = key := fun e => blt_ne hq e.symm
    rw [eM, eM_above r _ (fun p hp => h p (List.mem_cons_of_mem _ hp)), hr, if_neg hne, hi]
    simp
theorem rinsK_cons (q : BJ) (r : List BJ) : rinsK (q :: r) key = if blt q.1 key = true then rinsK r key + 1 else 0 := by
  unfold rinsK; rw [List.takeWhile_cons]; split <;> simp
theorem fnd_cons (q : BJ) (r : List BJ) : fnd (q :: r) key = if blt q.1 key = true then fnd r key else decide (q.1 = key) := by
  unfold fnd; rw [rinsK_cons]
  by_cases h : blt q.1 key = true
  · rw [if_pos h, if_pos h]; rfl
  · rw [if_neg h, if_neg h]; rfl
theorem blt_tri {a b : ByteArray} (h1 : ¬ blt a b = true) (h2 : ¬ a = b) : blt b a = true := blt_gt (by simp [h1, h2])
/-- The members in their order: what the reference makes of them. -/
theorem eM_sort : ∀ (m : List BJ), msorted m → eM last op key x f m false = m.take (rinsK m key) ++ ((if last = true then (if op = 2 then [] else [(key, x)]) else match (if fnd m key = true then m[rinsK m key]? else none) with | some q => [(q.1, f q.2)] | none => []) ++ m.drop (rinsK m key + (if fnd m key = true then 1 else 0)))
  | [], _ => by
    rw [eM]
    cases last <;> by_cases h : op = 2 <;> simp [h, fnd, rinsK]
  | q :: r, hs => by
    have hs' : msorted r := (List.pairwise_cons.1 hs).2
    have hall := (List.pairwise_cons.1 hs).1
    by_cases hb : blt q.1 key = true
    · have hi : eMi last op key q.1 false = false := by unfold eMi; rw [hb]; simp
      rw [eM, hi, if_neg (by simp), if_neg (blt_ne hb), Bool.or_false, eM_sort r hs', rinsK_cons, if_pos hb, fnd_cons, if_pos hb, show rinsK r key + 1 + (if fnd r key = true then 1 else 0) = (rinsK r key + (if fnd r key = true then 1 else 0)) + 1 by omega]
      rfl
    · rw [rinsK_cons, if_neg hb, fnd_cons, if_neg hb]
      have hi : eMi last op key q.1 false = (last && decide (op ≠ 2)) := by unfold eMi; simp [hb]
      by_cases hq : q.1 = key
      · have hab : ∀ p ∈ r, blt key p.1 = true := fun p hp => hq ▸ hall p hp
        rw [eM, eM_above r _ hab, hi, if_pos hq]
        cases last <;> by_cases h : op = 2 <;> simp [h, hq]
      · have hlt := blt_tri hb hq
        have hab : ∀ p ∈ q :: r, blt key p.1 = true := fun p hp => by
          rcases List.mem_cons.1 hp with rfl | hp
          · exact hlt
          · exact blt_trans hlt (hall p hp)
        rw [eM_above _ _ hab]
        cases last <;> by_cases h : op = 2 <;> simp [h, hq]
end
end Lg
namespace Lg
open Go
variable [GLay]
def eC (b : Bool) : Int := if b = true then 0 else 6
theorem find_sort {key : ByteArray} : ∀ (m : List BJ), msorted m → m.find? (fun q => decide (q.1 = key)) = if fnd m key = true then m[rinsK m key]? else none
  | [], _ => by simp [fnd]
  | q :: r, hs => by
    have hs' : msorted r := (List.pairwise_cons.1 hs).2
    have hall := (List.pairwise_cons.1 hs).1
    rw [rinsK_cons, fnd_cons]
    by_cases hb : blt q.1 key = true
    · rw [if_pos hb, if_pos hb, List.find?_cons_of_neg (by simp [blt_ne hb]), find_sort r hs']; rfl
    · rw [if_neg hb, if_neg hb]
      by_cases hq : q.1 = key
      · rw [List.find?_cons_of_pos (by simp [hq])]; simp [hq]
      · rw [List.find?_cons_of_neg (by simp [hq]), List.find?_eq_none.2 (fun p hp => by
          have := blt_ne (blt_trans (blt_tri hb hq) (hall p hp))
          simpa using fun e => this e.symm)]
        simp [hq]
theorem jfB_fnd {v : JV} {key : ByteArray} (h5 : v.kind = 5) (hs : msorted v.m) : jfB v key = fnd v.m key := by
  unfold jfB jfind
  rw [if_pos h5, find_sort v.m hs]
  by_cases h : fnd v.m key = true
  · obtain ⟨q, hq, _⟩ := fnd_get h
    rw [if_pos h, hq, h]; rfl
  · rw [if_neg h]; simpa using h
theorem ms_lt {m : List BJ} {key : ByteArray} {j : Nat} {p : BJ} (hj : j < rinsK m key) (hp : m[j]? = some p) : blt p.1 key = true := by
  have h1 : (m.takeWhile fun q => blt q.1 key)[j]? = some p := by
    obtain ⟨t, ht⟩ := List.takeWhile_prefix (fun q : BJ => blt q.1 key) (l := m)
    rw [← ht, List.getElem?_append_left hj] at hp
    exact hp
  exact List.all_eq_true.1 (List.all_takeWhile (p := fun q => blt q.1 key) (l := m)) p (List.mem_of_getElem? h1)
theorem ms_uni {m : List BJ} (hs : msorted m) {i j : Nat} {p q : BJ} (hp : m[i]? = some p) (hq : m[j]? = some q) (h : p.1 = q.1) : p = q := by
  rcases Nat.lt_trichotomy i j with e | e | e
  · have := ms_get hs e hp hq; rw [h, blt_irr] at this; cases this
  · subst e; rw [hp] at hq; exact Option.some.inj hq
  · have := ms_get hs e hq hp; rw [h, blt_irr] at this; cases this
variable {op : Int} {x : JV} {g : JV → JV × Bool} {r0 : List BL}
theorem jed_pwi (h0 : r0 ≠ []) (base : ∀ v, jst v → jed op x r0 v = ((g v).1, eC (g v).2)) : ∀ (l : List BL) (v : JV), jst v → jed op x (l ++ r0) v = ((pwi g l v).1, eC (pwi g l v).2)
  | [], v, h => base v h
  | nm :: r, v, h => by
    have hl : (r ++ r0).isEmpty = false := by cases r <;> cases r0 <;> simp_all
    have hs := st_ms h
    rw [List.cons_append]
    by_cases h4 : v.kind = 4
    · have hm0 : v.m = [] := st_nom h (by omega)
      have hjo : jeO op nm false v = jixO nm v.l.length false := by unfold jeO; simp
      have hjk : jeK op nm false v = jixN nm v.l.length false := by unfold jeK; simp
      by_cases ho : jixO nm v.l.length false = true
      · obtain ⟨k, hk, hkl⟩ := jix_nat ho
        have ha : v.l[k]? = some v.l[k] := List.getElem?_eq_getElem hkl
        have ih := jed_pwi h0 base r v.l[k] (st_get h ha)
        have hgd : v.l.getD k vz = v.l[k] := by rw [List.getD_eq_getElem?_getD, ha]; rfl
        cases hb : (pwi g r v.l[k]).2 with
        | true =>
          rw [hb] at ih
          rw [jedA_ok hl h4 (by rw [hjk, hk]) (by rw [hjo]; exact ho) (fun _ => by rw [hgd, ih]; rfl), pwi_4 h4 ho hk ha hb, hgd, ih, eA_set hkl, hm0]; rfl
        | false =>
          rw [hb] at ih
          rw [jedA_bad hl h4 (by rw [hjk, hk]) (by rw [hjo]; exact ho) rfl ha (by rw [ih]; show ¬ eC false = 0; decide), pwi_bad4 h4 hk ha hb, ih] <;> rfl
      · rw [jedA_no hl h4 (by rw [hjo]; simpa using ho), pwi_no4 h4 (by simpa using ho)]; rfl
    · by_cases h5 : v.kind = 5
      · have hl0 : v.l = [] := st_nol h h4
        by_cases hf : fnd v.m (ba nm) = true
        · obtain ⟨q, hq, hqk⟩ := fnd_get hf
          have ih := jed_pwi h0 base r q.2 (st_mget h hq)
          have hjf : jfB v (ba nm) = true := by rw [jfB_fnd h5 hs]; exact hf
          cases hb : (pwi g r q.2).2 with
          | true =>
            rw [hb] at ih
            have hlt := (List.getElem?_eq_some_iff.1 hq).1
            rw [jedM_ok hl h4 h5 (.inl hjf) (eBad_none (fun p hp hk => by
              obtain ⟨j, hj⟩ := List.getElem?_of_mem hp
              rw [ms_uni hs hj hq (hk.trans hqk.symm), ih]; rfl) _), pwi_5 h4 h5 hf hq hb, eM_sort v.m hs, if_neg (by simp), if_pos hf, if_pos hf, hq, hl0, List.set_eq_take_append_cons_drop, if_pos hlt]
            simp only [ih, hqk]; (try rfl)
          | false =>
            rw [hb] at ih
            rw [jedM_bad hl h4 h5 (.inl hjf) (eBad_at (g := fun y => (jed op x (r ++ r0) y).2) hq (fun p hp hk => by
              obtain ⟨j, hj⟩ := List.getElem?_of_mem hp
              rw [List.getElem?_take] at hj
              split at hj
              · rename_i hjl; exact absurd hk (blt_ne (ms_lt hjl hj))
              · cases hj) hqk (by simp only [ih]; show ¬ eC false = 0; decide)) (by simp only [ih]; show ¬ eC false = 0; decide), pwi_bad5 h4 hq hb]
            simp only [ih]
        · rw [jedM_no hl h4 (.inr ⟨by rw [jfB_fnd h5 hs]; simpa using hf, .inr rfl⟩), pwi_no5 h4 (by simpa using hf)]; rfl
      · rw [jedM_no hl h4 (.inl h5), pwi_n h4 h5]; rfl
end Lg
