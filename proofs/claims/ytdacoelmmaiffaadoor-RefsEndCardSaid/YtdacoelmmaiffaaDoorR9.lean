/- A part of the proof of The nodes of any schema with their references known, or what is amiss and where: the program's refs.Link answers as the reference's Link.: W17 W21 W22 Lc9 C11 C12 VRt. -/
import Derived.Test.YtdacoelmmaiffaaDoorR7
import Derived.Test.YtdacoelmmaiffaaDoorR5
import Derived.Test.YtdacoelmmaiffaaDoorR4
import Derived.Test.YtdacoelmmaiffaaDoorR3
import Derived.Test.YtdacoelmmaiffaaDoorR8
import Derived.Test.YtdacoelmmaiffaaDoorR6
import Derived.SizedLaws
set_option linter.unusedVariables false
set_option linter.unusedSimpArgs false
set_option linter.unusedSectionVars false
set_option maxRecDepth 20000
set_option maxHeartbeats 4000000
namespace Lg
open Go Go.Proofs Go.RowKit
variable [GLay] 
theorem rnum_c (s : ByteArray) (σ : List AO) (hs : s.size ≤ 1000000) : ACalls Tryd.prog 42 [.str s] σ (Ret (.tup [.agg (ncells (rNum s).1), .int .i64 (rNum s).2]) σ) := by
 refine ACalls_bodyC Tryd.func42 rfl Tryd.ntmps42 (by rw [Tryd.results42]; exact (.ck Tryd.isAgg24 Tryd.sizeOf24 (.t .nil))) (Nat.le_of_ble_eq_true rfl) (fun hcl hal => ?_)
 refine zw2 ?_
 refine zu1 ?_
 refine zt rfl (zc rfl (end_c s 0 _ hs (by omega))) ?_
 refine zv5 ?_
 refine AWp_seq ?_
 refine zu3 ?_
 refine zsp 25 rfl (fun h1 => ?_) fun h1 => ?_
 ·rw [h1]; (try simp only [decide_eq_true_eq, decide_eq_false_iff_not, Bool.not_eq_true', Bool.not_eq_false', Int.not_lt, Int.not_le, Bool.not_true, Bool.not_false, Int.toNat_natCast, tn1, tn2, tm1, tnn, bne_iff_ne, beq_iff_eq, beq_eq_false_iff_ne, ne_eq, Decidable.not_not] at h1)
  refine zv5 ?_
  refine AWp_condT rfl ?_
  refine zw3 ?_
  refine zrt ?_
  have hE : rNum s = ({}, 1) := by unfold rNum; rw [if_pos (.inl (by simpa using h1))]
  rw [hE]; exact RQ_ret (rkvs_cons (rkv_ck rfl rfl rfl) (rkvs_cons (rkv_t rfl) rfl)) hcl (by simp [rks, AV.lt, AV.ltL, ofConst1, ncells]) (Ret_of rfl)
 ·rw [h1]; (try simp only [decide_eq_true_eq, decide_eq_false_iff_not, Bool.not_eq_true', Bool.not_eq_false', Int.not_lt, Int.not_le, Bool.not_true, Bool.not_false, Int.toNat_natCast, tn1, tn2, tm1, tnn, bne_iff_ne, beq_iff_eq, beq_eq_false_iff_ne, ne_eq, Decidable.not_not] at h1)
  refine zv5 ?_
  refine AWp_cond rfl (fun h2 => ?_) (fun h2 => ?_)
  ·(try rw [h2]); (try simp only [decide_eq_true_eq, decide_eq_false_iff_not, Bool.not_eq_true', Bool.not_eq_false', Int.not_lt, Int.not_le, Bool.not_true, Bool.not_false, Int.toNat_natCast, tn1, tn2, tm1, tnn, bne_iff_ne, beq_iff_eq, beq_eq_false_iff_ne, ne_eq, Decidable.not_not] at h2)
   refine zw3 ?_
   refine zrt ?_
   have hE : rNum s = ({}, 1) := by unfold rNum; rw [if_pos (.inr (by omega))]
   rw [hE]; exact RQ_ret (rkvs_cons (rkv_ck rfl rfl rfl) (rkvs_cons (rkv_t rfl) rfl)) hcl (by simp [rks, AV.lt, AV.ltL, ofConst1, ncells]) (Ret_of rfl)
  ·(try rw [h2]); (try simp only [decide_eq_true_eq, decide_eq_false_iff_not, Bool.not_eq_true', Bool.not_eq_false', Int.not_lt, Int.not_le, Bool.not_true, Bool.not_false, Int.toNat_natCast, tn1, tn2, tm1, tnn, bne_iff_ne, beq_iff_eq, beq_eq_false_iff_ne, ne_eq, Decidable.not_not] at h2)
   refine AWp_skip ?_
   refine zw1 ?_
   refine zw1 ?_
   refine zw1 ?_
   refine zw1 ?_
   refine zw1 ?_
   refine zw1 ?_
   refine zw1 ?_
   refine AWp_seq ?_
   refine zw1 ?_
   refine AWp_block ?_
   -- loop 0 LIVE 0:param 2:alloc 3:assign 6:alloc 7:assign 8:assign 9:assign 10:assign 11:assign 12:assign 13:assign
   refine AWp_loop (ι := Nat × NSt) (fun q => nloop s q.1 q.2 = nloop s 0 nst0 ∧ q.1 ≤ s.size ∧ (0 ≤ q.2.behind ∧ q.2.behind ≤ q.1) ∧ q.2.digits.size ≤ q.1 ∧ 0 ≤ q.2.exp ∧ q.2.exp ≤ 1000000) (fun q => ⟨[], [(0, .str s), (2, .ptr (σ.length + 0) 0), (6, .ptr (σ.length + 1) 0), (7, .str q.2.digits), (8, .int .i64 q.2.behind), (9, .bool q.2.point), (10, .int .i64 q.2.exp), (11, .bool q.2.down), (12, .bool q.2.power), (13, .int .i64 (q.1 : Int))]⟩) (fun q => σ ++ [.box [.bool false, .str e0, .int .i64 0], .box [.bool q.2.neg, .str e0, .int .i64 0]]) (fun q => s.size - q.1) ((0, nst0)) (⟨rfl, Nat.zero_le _, ⟨Int.le_refl _, Int.le_refl _⟩, Nat.le_refl _, Int.le_refl _, by decide⟩) ?_ rfl (fun q hq => ?_)
   ·exact ⟨rfl, rfl, rfl, rfl, rfl, rfl, rfl, rfl, rfl, rfl, rfl, trivial⟩
   obtain ⟨i, ng, dn, pt, pw, d, b, x⟩ := q
   obtain ⟨hq1, hq2, hq3, hq4, hq5, hq6⟩ := hq
   simp only at hq1 hq2 hq3 hq4 hq5 hq6 ⊢
   have hbl := bat_lt s i
   have h1s : (ByteArray.mk #[u8b ((bat s i).toNat : Int)]).size = 1 := rfl
   refine AWp_seq ?_
   refine zw4 ?_
   refine AWp_cond rfl (fun h3 => ?_) (fun h3 => ?_)
   ·(try rw [h3]); (try simp only [decide_eq_true_eq, decide_eq_false_iff_not, Bool.not_eq_true', Bool.not_eq_false', Int.not_lt, Int.not_le, Bool.not_true, Bool.not_false, Int.toNat_natCast, tn1, tn2, tm1, tnn, bne_iff_ne, beq_iff_eq, beq_eq_false_iff_ne, ne_eq, Decidable.not_not] at h3)
    refine AWp_skip ?_
    refine AWp_seq ?_
    refine AWp_block ?_
    refine zu3 ?_
    simp only [Int.toNat_natCast]
    refine zv1 ?_
    refine zw1 ?_
    refine AWp_cond rfl (fun h4 => ?_) (fun h4 => ?_)
    ·(try rw [h4]); (try simp only [decide_eq_true_eq, decide_eq_false_iff_not, Bool.not_eq_true', Bool.not_eq_false', Int.not_lt, Int.not_le, Bool.not_true, Bool.not_false, Int.toNat_natCast, tn1, tn2, tm1, tnn, bne_iff_ne, beq_iff_eq, beq_eq_false_iff_ne, ne_eq, Decidable.not_not] at h4)
     subst h4
     refine AWp_seq ?_
     refine zw2 ?_
     refine AWp_cond rfl (fun h5 => ?_) (fun h5 => ?_)
     ·(try rw [h5]); (try simp only [decide_eq_true_eq, decide_eq_false_iff_not, Bool.not_eq_true', Bool.not_eq_false', Int.not_lt, Int.not_le, Bool.not_true, Bool.not_false, Int.toNat_natCast, tn1, tn2, tm1, tnn, bne_iff_ne, beq_iff_eq, beq_eq_false_iff_ne, ne_eq, Decidable.not_not] at h5)
      refine AWp_regL ?_
      refine zv1 ?_
      refine zu3 ?_
      refine zsp 46 rfl (fun h6 => ?_) fun h6 => ?_
      ·rw [h6]; (try simp only [decide_eq_true_eq, decide_eq_false_iff_not, Bool.not_eq_true', Bool.not_eq_false', Int.not_lt, Int.not_le, Bool.not_true, Bool.not_false, Int.toNat_natCast, tn1, tn2, tm1, tnn, bne_iff_ne, beq_iff_eq, beq_eq_false_iff_ne, ne_eq, Decidable.not_not] at h6)
       refine zv3 ?_
       refine AWp_cond rfl (fun h7 => ?_) (fun h7 => ?_)
       ·(try rw [h7]); (try simp only [decide_eq_true_eq, decide_eq_false_iff_not, Bool.not_eq_true', Bool.not_eq_false', Int.not_lt, Int.not_le, Bool.not_true, Bool.not_false, Int.toNat_natCast, tn1, tn2, tm1, tnn, bne_iff_ne, beq_iff_eq, beq_eq_false_iff_ne, ne_eq, Decidable.not_not] at h7)
        refine AWp_regL ?_
        refine zv8 ?_
        refine AWp_regL ?_
        refine zv3 ?_
        first | (exfalso; omega; done) | exact ⟨(i + 1, ⟨ng, true, pt, true, d, b, x⟩), σ.length + 2, ⟨by rw [← hq1]; exact (nl1 (by omega) (by omega)).symm, by simp only; omega, by simp only; omega, by simp only [ByteArray.size_append]; omega, by simp only; omega, by simp only; omega⟩, by simp only; omega, by simp, ⟨rfl, rfl, rfl, rfl, rfl, rfl, rfl, rfl, rfl, rfl, rfl, trivial⟩, closed_own 2 hcl (by simp [ownLt, AO.cells, AV.ltL, AV.lt]), by simp [ltE, AV.lt], take_own 2⟩ | exact ⟨(i + 1, ⟨ng, dn, pt, true, d, b, min (10 * x + (bat s i).toNat - 48) 1000000⟩), σ.length + 2, ⟨by rw [← hq1]; exact (nl2 (by omega) (by omega)).symm, by simp only; omega, by simp only; omega, by simp only [ByteArray.size_append]; omega, by simp only; omega, by simp only; omega⟩, by simp only; omega, by simp, ⟨rfl, rfl, rfl, rfl, rfl, rfl, rfl, rfl, rfl, rfl, rfl, trivial⟩, closed_own 2 hcl (by simp [ownLt, AO.cells, AV.ltL, AV.lt]), by simp [ltE, AV.lt], take_own 2⟩ | exact ⟨(i + 1, ⟨ng, dn, pt, true, d, b, x⟩), σ.length + 2, ⟨by rw [← hq1]; exact (nl3 (by omega) (by omega) (by omega)).symm, by simp only; omega, by simp only; omega, by simp only [ByteArray.size_append]; omega, by simp only; omega, by simp only; omega⟩, by simp only; omega, by simp, ⟨rfl, rfl, rfl, rfl, rfl, rfl, rfl, rfl, rfl, rfl, rfl, trivial⟩, closed_own 2 hcl (by simp [ownLt, AO.cells, AV.ltL, AV.lt]), by simp [ltE, AV.lt], take_own 2⟩ | exact ⟨(i + 1, ⟨true, dn, pt, false, d, b, x⟩), σ.length + 2, ⟨by rw [← hq1]; exact (nl4 (by omega) (by omega)).symm, by simp only; omega, by simp only; omega, by simp only [ByteArray.size_append]; omega, by simp only; omega, by simp only; omega⟩, by simp only; omega, by simp, ⟨rfl, rfl, rfl, rfl, rfl, rfl, rfl, rfl, rfl, rfl, rfl, trivial⟩, closed_own 2 hcl (by simp [ownLt, AO.cells, AV.ltL, AV.lt]), by simp [ltE, AV.lt], take_own 2⟩ | exact ⟨(i + 1, ⟨ng, dn, true, false, d, b, x⟩), σ.length + 2, ⟨by rw [← hq1]; exact (nl5 (by omega) (by omega)).symm, by simp only; omega, by simp only; omega, by simp only [ByteArray.size_append]; omega, by simp only; omega, by simp only; omega⟩, by simp only; omega, by simp, ⟨rfl, rfl, rfl, rfl, rfl, rfl, rfl, rfl, rfl, rfl, rfl, trivial⟩, closed_own 2 hcl (by simp [ownLt, AO.cells, AV.ltL, AV.lt]), by simp [ltE, AV.lt], take_own 2⟩ | exact ⟨(i + 1, ⟨ng, dn, pt, true, d, b, x⟩), σ.length + 2, ⟨by rw [← hq1]; exact (nl6 (by omega) (by omega)).symm, by simp only; omega, by simp only; omega, by simp only [ByteArray.size_append]; omega, by simp only; omega, by simp only; omega⟩, by simp only; omega, by simp, ⟨rfl, rfl, rfl, rfl, rfl, rfl, rfl, rfl, rfl, rfl, rfl, trivial⟩, closed_own 2 hcl (by simp [ownLt, AO.cells, AV.ltL, AV.lt]), by simp [ltE, AV.lt], take_own 2⟩ | exact ⟨(i + 1, ⟨ng, dn, true, false, d ++ ⟨#[u8b ((bat s i).toNat : Int)]⟩, b + 1, x⟩), σ.length + 2, ⟨by rw [← hq1]; exact (nl7 (by omega) (by omega) (by omega) (by omega)).symm, by simp only; omega, by simp only; omega, by simp only [ByteArray.size_append]; omega, by simp only; omega, by simp only; omega⟩, by simp only; omega, by simp, ⟨rfl, rfl, rfl, rfl, rfl, rfl, rfl, rfl, rfl, rfl, rfl, trivial⟩, closed_own 2 hcl (by simp [ownLt, AO.cells, AV.ltL, AV.lt]), by simp [ltE, AV.lt], take_own 2⟩ | exact ⟨(i + 1, ⟨ng, dn, false, false, d ++ ⟨#[u8b ((bat s i).toNat : Int)]⟩, b, x⟩), σ.length + 2, ⟨by rw [← hq1]; exact (nl8 (by omega) (by omega) (by omega) (by omega)).symm, by simp only; omega, by simp only; omega, by simp only [ByteArray.size_append]; omega, by simp only; omega, by simp only; omega⟩, by simp only; omega, by simp, ⟨rfl, rfl, rfl, rfl, rfl, rfl, rfl, rfl, rfl, rfl, rfl, trivial⟩, closed_own 2 hcl (by simp [ownLt, AO.cells, AV.ltL, AV.lt]), by simp [ltE, AV.lt], take_own 2⟩
       ·(try rw [h7]); (try simp only [decide_eq_true_eq, decide_eq_false_iff_not, Bool.not_eq_true', Bool.not_eq_false', Int.not_lt, Int.not_le, Bool.not_true, Bool.not_false, Int.toNat_natCast, tn1, tn2, tm1, tnn, bne_iff_ne, beq_iff_eq, beq_eq_false_iff_ne, ne_eq, Decidable.not_not] at h7)
        refine AWp_skip ?_
        refine AWp_regL ?_
        refine zv3 ?_
        first | (exfalso; omega; done) | exact ⟨(i + 1, ⟨ng, true, pt, true, d, b, x⟩), σ.length + 2, ⟨by rw [← hq1]; exact (nl1 (by omega) (by omega)).symm, by simp only; omega, by simp only; omega, by simp only [ByteArray.size_append]; omega, by simp only; omega, by simp only; omega⟩, by simp only; omega, by simp, ⟨rfl, rfl, rfl, rfl, rfl, rfl, rfl, rfl, rfl, rfl, rfl, trivial⟩, closed_own 2 hcl (by simp [ownLt, AO.cells, AV.ltL, AV.lt]), by simp [ltE, AV.lt], take_own 2⟩ | exact ⟨(i + 1, ⟨ng, dn, pt, true, d, b, min (10 * x + (bat s i).toNat - 48) 1000000⟩), σ.length + 2, ⟨by rw [← hq1]; exact (nl2 (by omega) (by omega)).symm, by simp only; omega, by simp only; omega, by simp only [ByteArray.size_append]; omega, by simp only; omega, by simp only; omega⟩, by simp only; omega, by simp, ⟨rfl, rfl, rfl, rfl, rfl, rfl, rfl, rfl, rfl, rfl, rfl, trivial⟩, closed_own 2 hcl (by simp [ownLt, AO.cells, AV.ltL, AV.lt]), by simp [ltE, AV.lt], take_own 2⟩ | exact ⟨(i + 1, ⟨ng, dn, pt, true, d, b, x⟩), σ.length + 2, ⟨by rw [← hq1]; exact (nl3 (by omega) (by omega) (by omega)).symm, by simp only; omega, by simp only; omega, by simp only [ByteArray.size_append]; omega, by simp only; omega, by simp only; omega⟩, by simp only; omega, by simp, ⟨rfl, rfl, rfl, rfl, rfl, rfl, rfl, rfl, rfl, rfl, rfl, trivial⟩, closed_own 2 hcl (by simp [ownLt, AO.cells, AV.ltL, AV.lt]), by simp [ltE, AV.lt], take_own 2⟩ | exact ⟨(i + 1, ⟨true, dn, pt, false, d, b, x⟩), σ.length + 2, ⟨by rw [← hq1]; exact (nl4 (by omega) (by omega)).symm, by simp only; omega, by simp only; omega, by simp only [ByteArray.size_append]; omega, by simp only; omega, by simp only; omega⟩, by simp only; omega, by simp, ⟨rfl, rfl, rfl, rfl, rfl, rfl, rfl, rfl, rfl, rfl, rfl, trivial⟩, closed_own 2 hcl (by simp [ownLt, AO.cells, AV.ltL, AV.lt]), by simp [ltE, AV.lt], take_own 2⟩ | exact ⟨(i + 1, ⟨ng, dn, true, false, d, b, x⟩), σ.length + 2, ⟨by rw [← hq1]; exact (nl5 (by omega) (by omega)).symm, by simp only; omega, by simp only; omega, by simp only [ByteArray.size_append]; omega, by simp only; omega, by simp only; omega⟩, by simp only; omega, by simp, ⟨rfl, rfl, rfl, rfl, rfl, rfl, rfl, rfl, rfl, rfl, rfl, trivial⟩, closed_own 2 hcl (by simp [ownLt, AO.cells, AV.ltL, AV.lt]), by simp [ltE, AV.lt], take_own 2⟩ | exact ⟨(i + 1, ⟨ng, dn, pt, true, d, b, x⟩), σ.length + 2, ⟨by rw [← hq1]; exact (nl6 (by omega) (by omega)).symm, by simp only; omega, by simp only; omega, by simp only [ByteArray.size_append]; omega, by simp only; omega, by simp only; omega⟩, by simp only; omega, by simp, ⟨rfl, rfl, rfl, rfl, rfl, rfl, rfl, rfl, rfl, rfl, rfl, trivial⟩, closed_own 2 hcl (by simp [ownLt, AO.cells, AV.ltL, AV.lt]), by simp [ltE, AV.lt], take_own 2⟩ | exact ⟨(i + 1, ⟨ng, dn, true, false, d ++ ⟨#[u8b ((bat s i).toNat : Int)]⟩, b + 1, x⟩), σ.length + 2, ⟨by rw [← hq1]; exact (nl7 (by omega) (by omega) (by omega) (by omega)).symm, by simp only; omega, by simp only; omega, by simp only [ByteArray.size_append]; omega, by simp only; omega, by simp only; omega⟩, by simp only; omega, by simp, ⟨rfl, rfl, rfl, rfl, rfl, rfl, rfl, rfl, rfl, rfl, rfl, trivial⟩, closed_own 2 hcl (by simp [ownLt, AO.cells, AV.ltL, AV.lt]), by simp [ltE, AV.lt], take_own 2⟩ | exact ⟨(i + 1, ⟨ng, dn, false, false, d ++ ⟨#[u8b ((bat s i).toNat : Int)]⟩, b, x⟩), σ.length + 2, ⟨by rw [← hq1]; exact (nl8 (by omega) (by omega) (by omega) (by omega)).symm, by simp only; omega, by simp only; omega, by simp only [ByteArray.size_append]; omega, by simp only; omega, by simp only; omega⟩, by simp only; omega, by simp, ⟨rfl, rfl, rfl, rfl, rfl, rfl, rfl, rfl, rfl, rfl, rfl, trivial⟩, closed_own 2 hcl (by simp [ownLt, AO.cells, AV.ltL, AV.lt]), by simp [ltE, AV.lt], take_own 2⟩
      ·rw [h6]; (try simp only [decide_eq_true_eq, decide_eq_false_iff_not, Bool.not_eq_true', Bool.not_eq_false', Int.not_lt, Int.not_le, Bool.not_true, Bool.not_false, Int.toNat_natCast, tn1, tn2, tm1, tnn, bne_iff_ne, beq_iff_eq, beq_eq_false_iff_ne, ne_eq, Decidable.not_not] at h6)
       refine zv3 ?_
       refine AWp_condF rfl ?_
       refine AWp_skip ?_
       refine AWp_regL ?_
       refine zv3 ?_
       first | (exfalso; omega; done) | exact ⟨(i + 1, ⟨ng, true, pt, true, d, b, x⟩), σ.length + 2, ⟨by rw [← hq1]; exact (nl1 (by omega) (by omega)).symm, by simp only; omega, by simp only; omega, by simp only [ByteArray.size_append]; omega, by simp only; omega, by simp only; omega⟩, by simp only; omega, by simp, ⟨rfl, rfl, rfl, rfl, rfl, rfl, rfl, rfl, rfl, rfl, rfl, trivial⟩, closed_own 2 hcl (by simp [ownLt, AO.cells, AV.ltL, AV.lt]), by simp [ltE, AV.lt], take_own 2⟩ | exact ⟨(i + 1, ⟨ng, dn, pt, true, d, b, min (10 * x + (bat s i).toNat - 48) 1000000⟩), σ.length + 2, ⟨by rw [← hq1]; exact (nl2 (by omega) (by omega)).symm, by simp only; omega, by simp only; omega, by simp only [ByteArray.size_append]; omega, by simp only; omega, by simp only; omega⟩, by simp only; omega, by simp, ⟨rfl, rfl, rfl, rfl, rfl, rfl, rfl, rfl, rfl, rfl, rfl, trivial⟩, closed_own 2 hcl (by simp [ownLt, AO.cells, AV.ltL, AV.lt]), by simp [ltE, AV.lt], take_own 2⟩ | exact ⟨(i + 1, ⟨ng, dn, pt, true, d, b, x⟩), σ.length + 2, ⟨by rw [← hq1]; exact (nl3 (by omega) (by omega) (by omega)).symm, by simp only; omega, by simp only; omega, by simp only [ByteArray.size_append]; omega, by simp only; omega, by simp only; omega⟩, by simp only; omega, by simp, ⟨rfl, rfl, rfl, rfl, rfl, rfl, rfl, rfl, rfl, rfl, rfl, trivial⟩, closed_own 2 hcl (by simp [ownLt, AO.cells, AV.ltL, AV.lt]), by simp [ltE, AV.lt], take_own 2⟩ | exact ⟨(i + 1, ⟨true, dn, pt, false, d, b, x⟩), σ.length + 2, ⟨by rw [← hq1]; exact (nl4 (by omega) (by omega)).symm, by simp only; omega, by simp only; omega, by simp only [ByteArray.size_append]; omega, by simp only; omega, by simp only; omega⟩, by simp only; omega, by simp, ⟨rfl, rfl, rfl, rfl, rfl, rfl, rfl, rfl, rfl, rfl, rfl, trivial⟩, closed_own 2 hcl (by simp [ownLt, AO.cells, AV.ltL, AV.lt]), by simp [ltE, AV.lt], take_own 2⟩ | exact ⟨(i + 1, ⟨ng, dn, true, false, d, b, x⟩), σ.length + 2, ⟨by rw [← hq1]; exact (nl5 (by omega) (by omega)).symm, by simp only; omega, by simp only; omega, by simp only [ByteArray.size_append]; omega, by simp only; omega, by simp only; omega⟩, by simp only; omega, by simp, ⟨rfl, rfl, rfl, rfl, rfl, rfl, rfl, rfl, rfl, rfl, rfl, trivial⟩, closed_own 2 hcl (by simp [ownLt, AO.cells, AV.ltL, AV.lt]), by simp [ltE, AV.lt], take_own 2⟩ | exact ⟨(i + 1, ⟨ng, dn, pt, true, d, b, x⟩), σ.length + 2, ⟨by rw [← hq1]; exact (nl6 (by omega) (by omega)).symm, by simp only; omega, by simp only; omega, by simp only [ByteArray.size_append]; omega, by simp only; omega, by simp only; omega⟩, by simp only; omega, by simp, ⟨rfl, rfl, rfl, rfl, rfl, rfl, rfl, rfl, rfl, rfl, rfl, trivial⟩, closed_own 2 hcl (by simp [ownLt, AO.cells, AV.ltL, AV.lt]), by simp [ltE, AV.lt], take_own 2⟩ | exact ⟨(i + 1, ⟨ng, dn, true, false, d ++ ⟨#[u8b ((bat s i).toNat : Int)]⟩, b + 1, x⟩), σ.length + 2, ⟨by rw [← hq1]; exact (nl7 (by omega) (by omega) (by omega) (by omega)).symm, by simp only; omega, by simp only; omega, by simp only [ByteArray.size_append]; omega, by simp only; omega, by simp only; omega⟩, by simp only; omega, by simp, ⟨rfl, rfl, rfl, rfl, rfl, rfl, rfl, rfl, rfl, rfl, rfl, trivial⟩, closed_own 2 hcl (by simp [ownLt, AO.cells, AV.ltL, AV.lt]), by simp [ltE, AV.lt], take_own 2⟩ | exact ⟨(i + 1, ⟨ng, dn, false, false, d ++ ⟨#[u8b ((bat s i).toNat : Int)]⟩, b, x⟩), σ.length + 2, ⟨by rw [← hq1]; exact (nl8 (by omega) (by omega) (by omega) (by omega)).symm, by simp only; omega, by simp only; omega, by simp only [ByteArray.size_append]; omega, by simp only; omega, by simp only; omega⟩, by simp only; omega, by simp, ⟨rfl, rfl, rfl, rfl, rfl, rfl, rfl, rfl, rfl, rfl, rfl, trivial⟩, closed_own 2 hcl (by simp [ownLt, AO.cells, AV.ltL, AV.lt]), by simp [ltE, AV.lt], take_own 2⟩
     ·(try rw [h5]); (try simp only [decide_eq_true_eq, decide_eq_false_iff_not, Bool.not_eq_true', Bool.not_eq_false', Int.not_lt, Int.not_le, Bool.not_true, Bool.not_false, Int.toNat_natCast, tn1, tn2, tm1, tnn, bne_iff_ne, beq_iff_eq, beq_eq_false_iff_ne, ne_eq, Decidable.not_not] at h5)
      refine AWp_skip ?_
      refine zu3 ?_
      refine zsp 46 rfl (fun h8 => ?_) fun h8 => ?_
      ·rw [h8]; (try simp only [decide_eq_true_eq, decide_eq_false_iff_not, Bool.not_eq_true', Bool.not_eq_false', Int.not_lt, Int.not_le, Bool.not_true, Bool.not_false, Int.toNat_natCast, tn1, tn2, tm1, tnn, bne_iff_ne, beq_iff_eq, beq_eq_false_iff_ne, ne_eq, Decidable.not_not] at h8)
       refine zv3 ?_
       refine AWp_cond rfl (fun h9 => ?_) (fun h9 => ?_)
       ·(try rw [h9]); (try simp only [decide_eq_true_eq, decide_eq_false_iff_not, Bool.not_eq_true', Bool.not_eq_false', Int.not_lt, Int.not_le, Bool.not_true, Bool.not_false, Int.toNat_natCast, tn1, tn2, tm1, tnn, bne_iff_ne, beq_iff_eq, beq_eq_false_iff_ne, ne_eq, Decidable.not_not] at h9)
        refine AWp_regL ?_
        refine zv8 ?_
        refine AWp_regL ?_
        refine zv3 ?_
        first | (exfalso; omega; done) | exact ⟨(i + 1, ⟨ng, true, pt, true, d, b, x⟩), σ.length + 2, ⟨by rw [← hq1]; exact (nl1 (by omega) (by omega)).symm, by simp only; omega, by simp only; omega, by simp only [ByteArray.size_append]; omega, by simp only; omega, by simp only; omega⟩, by simp only; omega, by simp, ⟨rfl, rfl, rfl, rfl, rfl, rfl, rfl, rfl, rfl, rfl, rfl, trivial⟩, closed_own 2 hcl (by simp [ownLt, AO.cells, AV.ltL, AV.lt]), by simp [ltE, AV.lt], take_own 2⟩ | exact ⟨(i + 1, ⟨ng, dn, pt, true, d, b, min (10 * x + (bat s i).toNat - 48) 1000000⟩), σ.length + 2, ⟨by rw [← hq1]; exact (nl2 (by omega) (by omega)).symm, by simp only; omega, by simp only; omega, by simp only [ByteArray.size_append]; omega, by simp only; omega, by simp only; omega⟩, by simp only; omega, by simp, ⟨rfl, rfl, rfl, rfl, rfl, rfl, rfl, rfl, rfl, rfl, rfl, trivial⟩, closed_own 2 hcl (by simp [ownLt, AO.cells, AV.ltL, AV.lt]), by simp [ltE, AV.lt], take_own 2⟩ | exact ⟨(i + 1, ⟨ng, dn, pt, true, d, b, x⟩), σ.length + 2, ⟨by rw [← hq1]; exact (nl3 (by omega) (by omega) (by omega)).symm, by simp only; omega, by simp only; omega, by simp only [ByteArray.size_append]; omega, by simp only; omega, by simp only; omega⟩, by simp only; omega, by simp, ⟨rfl, rfl, rfl, rfl, rfl, rfl, rfl, rfl, rfl, rfl, rfl, trivial⟩, closed_own 2 hcl (by simp [ownLt, AO.cells, AV.ltL, AV.lt]), by simp [ltE, AV.lt], take_own 2⟩ | exact ⟨(i + 1, ⟨true, dn, pt, false, d, b, x⟩), σ.length + 2, ⟨by rw [← hq1]; exact (nl4 (by omega) (by omega)).symm, by simp only; omega, by simp only; omega, by simp only [ByteArray.size_append]; omega, by simp only; omega, by simp only; omega⟩, by simp only; omega, by simp, ⟨rfl, rfl, rfl, rfl, rfl, rfl, rfl, rfl, rfl, rfl, rfl, trivial⟩, closed_own 2 hcl (by simp [ownLt, AO.cells, AV.ltL, AV.lt]), by simp [ltE, AV.lt], take_own 2⟩ | exact ⟨(i + 1, ⟨ng, dn, true, false, d, b, x⟩), σ.length + 2, ⟨by rw [← hq1]; exact (nl5 (by omega) (by omega)).symm, by simp only; omega, by simp only; omega, by simp only [ByteArray.size_append]; omega, by simp only; omega, by simp only; omega⟩, by simp only; omega, by simp, ⟨rfl, rfl, rfl, rfl, rfl, rfl, rfl, rfl, rfl, rfl, rfl, trivial⟩, closed_own 2 hcl (by simp [ownLt, AO.cells, AV.ltL, AV.lt]), by simp [ltE, AV.lt], take_own 2⟩ | exact ⟨(i + 1, ⟨ng, dn, pt, true, d, b, x⟩), σ.length + 2, ⟨by rw [← hq1]; exact (nl6 (by omega) (by omega)).symm, by simp only; omega, by simp only; omega, by simp only [ByteArray.size_append]; omega, by simp only; omega, by simp only; omega⟩, by simp only; omega, by simp, ⟨rfl, rfl, rfl, rfl, rfl, rfl, rfl, rfl, rfl, rfl, rfl, trivial⟩, closed_own 2 hcl (by simp [ownLt, AO.cells, AV.ltL, AV.lt]), by simp [ltE, AV.lt], take_own 2⟩ | exact ⟨(i + 1, ⟨ng, dn, true, false, d ++ ⟨#[u8b ((bat s i).toNat : Int)]⟩, b + 1, x⟩), σ.length + 2, ⟨by rw [← hq1]; exact (nl7 (by omega) (by omega) (by omega) (by omega)).symm, by simp only; omega, by simp only; omega, by simp only [ByteArray.size_append]; omega, by simp only; omega, by simp only; omega⟩, by simp only; omega, by simp, ⟨rfl, rfl, rfl, rfl, rfl, rfl, rfl, rfl, rfl, rfl, rfl, trivial⟩, closed_own 2 hcl (by simp [ownLt, AO.cells, AV.ltL, AV.lt]), by simp [ltE, AV.lt], take_own 2⟩ | exact ⟨(i + 1, ⟨ng, dn, false, false, d ++ ⟨#[u8b ((bat s i).toNat : Int)]⟩, b, x⟩), σ.length + 2, ⟨by rw [← hq1]; exact (nl8 (by omega) (by omega) (by omega) (by omega)).symm, by simp only; omega, by simp only; omega, by simp only [ByteArray.size_append]; omega, by simp only; omega, by simp only; omega⟩, by simp only; omega, by simp, ⟨rfl, rfl, rfl, rfl, rfl, rfl, rfl, rfl, rfl, rfl, rfl, trivial⟩, closed_own 2 hcl (by simp [ownLt, AO.cells, AV.ltL, AV.lt]), by simp [ltE, AV.lt], take_own 2⟩
       ·(try rw [h9]); (try simp only [decide_eq_true_eq, decide_eq_false_iff_not, Bool.not_eq_true', Bool.not_eq_false', Int.not_lt, Int.not_le, Bool.not_true, Bool.not_false, Int.toNat_natCast, tn1, tn2, tm1, tnn, bne_iff_ne, beq_iff_eq, beq_eq_false_iff_ne, ne_eq, Decidable.not_not] at h9)
        refine AWp_skip ?_
        refine AWp_regL ?_
        refine zv3 ?_
        first | (exfalso; omega; done) | exact ⟨(i + 1, ⟨ng, true, pt, true, d, b, x⟩), σ.length + 2, ⟨by rw [← hq1]; exact (nl1 (by omega) (by omega)).symm, by simp only; omega, by simp only; omega, by simp only [ByteArray.size_append]; omega, by simp only; omega, by simp only; omega⟩, by simp only; omega, by simp, ⟨rfl, rfl, rfl, rfl, rfl, rfl, rfl, rfl, rfl, rfl, rfl, trivial⟩, closed_own 2 hcl (by simp [ownLt, AO.cells, AV.ltL, AV.lt]), by simp [ltE, AV.lt], take_own 2⟩ | exact ⟨(i + 1, ⟨ng, dn, pt, true, d, b, min (10 * x + (bat s i).toNat - 48) 1000000⟩), σ.length + 2, ⟨by rw [← hq1]; exact (nl2 (by omega) (by omega)).symm, by simp only; omega, by simp only; omega, by simp only [ByteArray.size_append]; omega, by simp only; omega, by simp only; omega⟩, by simp only; omega, by simp, ⟨rfl, rfl, rfl, rfl, rfl, rfl, rfl, rfl, rfl, rfl, rfl, trivial⟩, closed_own 2 hcl (by simp [ownLt, AO.cells, AV.ltL, AV.lt]), by simp [ltE, AV.lt], take_own 2⟩ | exact ⟨(i + 1, ⟨ng, dn, pt, true, d, b, x⟩), σ.length + 2, ⟨by rw [← hq1]; exact (nl3 (by omega) (by omega) (by omega)).symm, by simp only; omega, by simp only; omega, by simp only [ByteArray.size_append]; omega, by simp only; omega, by simp only; omega⟩, by simp only; omega, by simp, ⟨rfl, rfl, rfl, rfl, rfl, rfl, rfl, rfl, rfl, rfl, rfl, trivial⟩, closed_own 2 hcl (by simp [ownLt, AO.cells, AV.ltL, AV.lt]), by simp [ltE, AV.lt], take_own 2⟩ | exact ⟨(i + 1, ⟨true, dn, pt, false, d, b, x⟩), σ.length + 2, ⟨by rw [← hq1]; exact (nl4 (by omega) (by omega)).symm, by simp only; omega, by simp only; omega, by simp only [ByteArray.size_append]; omega, by simp only; omega, by simp only; omega⟩, by simp only; omega, by simp, ⟨rfl, rfl, rfl, rfl, rfl, rfl, rfl, rfl, rfl, rfl, rfl, trivial⟩, closed_own 2 hcl (by simp [ownLt, AO.cells, AV.ltL, AV.lt]), by simp [ltE, AV.lt], take_own 2⟩ | exact ⟨(i + 1, ⟨ng, dn, true, false, d, b, x⟩), σ.length + 2, ⟨by rw [← hq1]; exact (nl5 (by omega) (by omega)).symm, by simp only; omega, by simp only; omega, by simp only [ByteArray.size_append]; omega, by simp only; omega, by simp only; omega⟩, by simp only; omega, by simp, ⟨rfl, rfl, rfl, rfl, rfl, rfl, rfl, rfl, rfl, rfl, rfl, trivial⟩, closed_own 2 hcl (by simp [ownLt, AO.cells, AV.ltL, AV.lt]), by simp [ltE, AV.lt], take_own 2⟩ | exact ⟨(i + 1, ⟨ng, dn, pt, true, d, b, x⟩), σ.length + 2, ⟨by rw [← hq1]; exact (nl6 (by omega) (by omega)).symm, by simp only; omega, by simp only; omega, by simp only [ByteArray.size_append]; omega, by simp only; omega, by simp only; omega⟩, by simp only; omega, by simp, ⟨rfl, rfl, rfl, rfl, rfl, rfl, rfl, rfl, rfl, rfl, rfl, trivial⟩, closed_own 2 hcl (by simp [ownLt, AO.cells, AV.ltL, AV.lt]), by simp [ltE, AV.lt], take_own 2⟩ | exact ⟨(i + 1, ⟨ng, dn, true, false, d ++ ⟨#[u8b ((bat s i).toNat : Int)]⟩, b + 1, x⟩), σ.length + 2, ⟨by rw [← hq1]; exact (nl7 (by omega) (by omega) (by omega) (by omega)).symm, by simp only; omega, by simp only; omega, by simp only [ByteArray.size_append]; omega, by simp only; omega, by simp only; omega⟩, by simp only; omega, by simp, ⟨rfl, rfl, rfl, rfl, rfl, rfl, rfl, rfl, rfl, rfl, rfl, trivial⟩, closed_own 2 hcl (by simp [ownLt, AO.cells, AV.ltL, AV.lt]), by simp [ltE, AV.lt], take_own 2⟩ | exact ⟨(i + 1, ⟨ng, dn, false, false, d ++ ⟨#[u8b ((bat s i).toNat : Int)]⟩, b, x⟩), σ.length + 2, ⟨by rw [← hq1]; exact (nl8 (by omega) (by omega) (by omega) (by omega)).symm, by simp only; omega, by simp only; omega, by simp only [ByteArray.size_append]; omega, by simp only; omega, by simp only; omega⟩, by simp only; omega, by simp, ⟨rfl, rfl, rfl, rfl, rfl, rfl, rfl, rfl, rfl, rfl, rfl, trivial⟩, closed_own 2 hcl (by simp [ownLt, AO.cells, AV.ltL, AV.lt]), by simp [ltE, AV.lt], take_own 2⟩
      ·rw [h8]; (try simp only [decide_eq_true_eq, decide_eq_false_iff_not, Bool.not_eq_true', Bool.not_eq_false', Int.not_lt, Int.not_le, Bool.not_true, Bool.not_false, Int.toNat_natCast, tn1, tn2, tm1, tnn, bne_iff_ne, beq_iff_eq, beq_eq_false_iff_ne, ne_eq, Decidable.not_not] at h8)
       refine zv3 ?_
       refine AWp_condF rfl ?_
       refine AWp_skip ?_
       refine AWp_regL ?_
       refine zv3 ?_
       first | (exfalso; omega; done) | exact ⟨(i + 1, ⟨ng, true, pt, true, d, b, x⟩), σ.length + 2, ⟨by rw [← hq1]; exact (nl1 (by omega) (by omega)).symm, by simp only; omega, by simp only; omega, by simp only [ByteArray.size_append]; omega, by simp only; omega, by simp only; omega⟩, by simp only; omega, by simp, ⟨rfl, rfl, rfl, rfl, rfl, rfl, rfl, rfl, rfl, rfl, rfl, trivial⟩, closed_own 2 hcl (by simp [ownLt, AO.cells, AV.ltL, AV.lt]), by simp [ltE, AV.lt], take_own 2⟩ | exact ⟨(i + 1, ⟨ng, dn, pt, true, d, b, min (10 * x + (bat s i).toNat - 48) 1000000⟩), σ.length + 2, ⟨by rw [← hq1]; exact (nl2 (by omega) (by omega)).symm, by simp only; omega, by simp only; omega, by simp only [ByteArray.size_append]; omega, by simp only; omega, by simp only; omega⟩, by simp only; omega, by simp, ⟨rfl, rfl, rfl, rfl, rfl, rfl, rfl, rfl, rfl, rfl, rfl, trivial⟩, closed_own 2 hcl (by simp [ownLt, AO.cells, AV.ltL, AV.lt]), by simp [ltE, AV.lt], take_own 2⟩ | exact ⟨(i + 1, ⟨ng, dn, pt, true, d, b, x⟩), σ.length + 2, ⟨by rw [← hq1]; exact (nl3 (by omega) (by omega) (by omega)).symm, by simp only; omega, by simp only; omega, by simp only [ByteArray.size_append]; omega, by simp only; omega, by simp only; omega⟩, by simp only; omega, by simp, ⟨rfl, rfl, rfl, rfl, rfl, rfl, rfl, rfl, rfl, rfl, rfl, trivial⟩, closed_own 2 hcl (by simp [ownLt, AO.cells, AV.ltL, AV.lt]), by simp [ltE, AV.lt], take_own 2⟩ | exact ⟨(i + 1, ⟨true, dn, pt, false, d, b, x⟩), σ.length + 2, ⟨by rw [← hq1]; exact (nl4 (by omega) (by omega)).symm, by simp only; omega, by simp only; omega, by simp only [ByteArray.size_append]; omega, by simp only; omega, by simp only; omega⟩, by simp only; omega, by simp, ⟨rfl, rfl, rfl, rfl, rfl, rfl, rfl, rfl, rfl, rfl, rfl, trivial⟩, closed_own 2 hcl (by simp [ownLt, AO.cells, AV.ltL, AV.lt]), by simp [ltE, AV.lt], take_own 2⟩ | exact ⟨(i + 1, ⟨ng, dn, true, false, d, b, x⟩), σ.length + 2, ⟨by rw [← hq1]; exact (nl5 (by omega) (by omega)).symm, by simp only; omega, by simp only; omega, by simp only [ByteArray.size_append]; omega, by simp only; omega, by simp only; omega⟩, by simp only; omega, by simp, ⟨rfl, rfl, rfl, rfl, rfl, rfl, rfl, rfl, rfl, rfl, rfl, trivial⟩, closed_own 2 hcl (by simp [ownLt, AO.cells, AV.ltL, AV.lt]), by simp [ltE, AV.lt], take_own 2⟩ | exact ⟨(i + 1, ⟨ng, dn, pt, true, d, b, x⟩), σ.length + 2, ⟨by rw [← hq1]; exact (nl6 (by omega) (by omega)).symm, by simp only; omega, by simp only; omega, by simp only [ByteArray.size_append]; omega, by simp only; omega, by simp only; omega⟩, by simp only; omega, by simp, ⟨rfl, rfl, rfl, rfl, rfl, rfl, rfl, rfl, rfl, rfl, rfl, trivial⟩, closed_own 2 hcl (by simp [ownLt, AO.cells, AV.ltL, AV.lt]), by simp [ltE, AV.lt], take_own 2⟩ | exact ⟨(i + 1, ⟨ng, dn, true, false, d ++ ⟨#[u8b ((bat s i).toNat : Int)]⟩, b + 1, x⟩), σ.length + 2, ⟨by rw [← hq1]; exact (nl7 (by omega) (by omega) (by omega) (by omega)).symm, by simp only; omega, by simp only; omega, by simp only [ByteArray.size_append]; omega, by simp only; omega, by simp only; omega⟩, by simp only; omega, by simp, ⟨rfl, rfl, rfl, rfl, rfl, rfl, rfl, rfl, rfl, rfl, rfl, trivial⟩, closed_own 2 hcl (by simp [ownLt, AO.cells, AV.ltL, AV.lt]), by simp [ltE, AV.lt], take_own 2⟩ | exact ⟨(i + 1, ⟨ng, dn, false, false, d ++ ⟨#[u8b ((bat s i).toNat : Int)]⟩, b, x⟩), σ.length + 2, ⟨by rw [← hq1]; exact (nl8 (by omega) (by omega) (by omega) (by omega)).symm, by simp only; omega, by simp only; omega, by simp only [ByteArray.size_append]; omega, by simp only; omega, by simp only; omega⟩, by simp only; omega, by simp, ⟨rfl, rfl, rfl, rfl, rfl, rfl, rfl, rfl, rfl, rfl, rfl, trivial⟩, closed_own 2 hcl (by simp [ownLt, AO.cells, AV.ltL, AV.lt]), by simp [ltE, AV.lt], take_own 2⟩
    ·(try rw [h4]); (try simp only [decide_eq_true_eq, decide_eq_false_iff_not, Bool.not_eq_true', Bool.not_eq_false', Int.not_lt, Int.not_le, Bool.not_true, Bool.not_false, Int.toNat_natCast, tn1, tn2, tm1, tnn, bne_iff_ne, beq_iff_eq, beq_eq_false_iff_ne, ne_eq, Decidable.not_not] at h4)
     subst h4
     refine zw2 ?_
     refine AWp_cond rfl (fun h10 => ?_) (fun h10 => ?_)
     ·(try rw [h10]); (try simp only [decide_eq_true_eq, decide_eq_false_iff_not, Bool.not_eq_true', Bool.not_eq_false', Int.not_lt, Int.not_le, Bool.not_true, Bool.not_false, Int.toNat_natCast, tn1, tn2, tm1, tnn, bne_iff_ne, beq_iff_eq, beq_eq_false_iff_ne, ne_eq, Decidable.not_not] at h10)
      refine AWp_regL ?_
      refine zg1 ?_
      refine ztN rfl rfl (op_storeO (r := [.bool true, .str e0, .int .i64 0]) rfl Tryd.sizeOf4 rfl rfl rfl rfl rfl (by decide)) ?_
      refine zon ?_
      refine AWp_regL ?_
      refine zv3 ?_
      first | (exfalso; omega; done) | exact ⟨(i + 1, ⟨ng, true, pt, true, d, b, x⟩), σ.length + 2, ⟨by rw [← hq1]; exact (nl1 (by omega) (by omega)).symm, by simp only; omega, by simp only; omega, by simp only [ByteArray.size_append]; omega, by simp only; omega, by simp only; omega⟩, by simp only; omega, by simp, ⟨rfl, rfl, rfl, rfl, rfl, rfl, rfl, rfl, rfl, rfl, rfl, trivial⟩, closed_own 2 hcl (by simp [ownLt, AO.cells, AV.ltL, AV.lt]), by simp [ltE, AV.lt], take_own 2⟩ | exact ⟨(i + 1, ⟨ng, dn, pt, true, d, b, min (10 * x + (bat s i).toNat - 48) 1000000⟩), σ.length + 2, ⟨by rw [← hq1]; exact (nl2 (by omega) (by omega)).symm, by simp only; omega, by simp only; omega, by simp only [ByteArray.size_append]; omega, by simp only; omega, by simp only; omega⟩, by simp only; omega, by simp, ⟨rfl, rfl, rfl, rfl, rfl, rfl, rfl, rfl, rfl, rfl, rfl, trivial⟩, closed_own 2 hcl (by simp [ownLt, AO.cells, AV.ltL, AV.lt]), by simp [ltE, AV.lt], take_own 2⟩ | exact ⟨(i + 1, ⟨ng, dn, pt, true, d, b, x⟩), σ.length + 2, ⟨by rw [← hq1]; exact (nl3 (by omega) (by omega) (by omega)).symm, by simp only; omega, by simp only; omega, by simp only [ByteArray.size_append]; omega, by simp only; omega, by simp only; omega⟩, by simp only; omega, by simp, ⟨rfl, rfl, rfl, rfl, rfl, rfl, rfl, rfl, rfl, rfl, rfl, trivial⟩, closed_own 2 hcl (by simp [ownLt, AO.cells, AV.ltL, AV.lt]), by simp [ltE, AV.lt], take_own 2⟩ | exact ⟨(i + 1, ⟨true, dn, pt, false, d, b, x⟩), σ.length + 2, ⟨by rw [← hq1]; exact (nl4 (by omega) (by omega)).symm, by simp only; omega, by simp only; omega, by simp only [ByteArray.size_append]; omega, by simp only; omega, by simp only; omega⟩, by simp only; omega, by simp, ⟨rfl, rfl, rfl, rfl, rfl, rfl, rfl, rfl, rfl, rfl, rfl, trivial⟩, closed_own 2 hcl (by simp [ownLt, AO.cells, AV.ltL, AV.lt]), by simp [ltE, AV.lt], take_own 2⟩ | exact ⟨(i + 1, ⟨ng, dn, true, false, d, b, x⟩), σ.length + 2, ⟨by rw [← hq1]; exact (nl5 (by omega) (by omega)).symm, by simp only; omega, by simp only; omega, by simp only [ByteArray.size_append]; omega, by simp only; omega, by simp only; omega⟩, by simp only; omega, by simp, ⟨rfl, rfl, rfl, rfl, rfl, rfl, rfl, rfl, rfl, rfl, rfl, trivial⟩, closed_own 2 hcl (by simp [ownLt, AO.cells, AV.ltL, AV.lt]), by simp [ltE, AV.lt], take_own 2⟩ | exact ⟨(i + 1, ⟨ng, dn, pt, true, d, b, x⟩), σ.length + 2, ⟨by rw [← hq1]; exact (nl6 (by omega) (by omega)).symm, by simp only; omega, by simp only; omega, by simp only [ByteArray.size_append]; omega, by simp only; omega, by simp only; omega⟩, by simp only; omega, by simp, ⟨rfl, rfl, rfl, rfl, rfl, rfl, rfl, rfl, rfl, rfl, rfl, trivial⟩, closed_own 2 hcl (by simp [ownLt, AO.cells, AV.ltL, AV.lt]), by simp [ltE, AV.lt], take_own 2⟩ | exact ⟨(i + 1, ⟨ng, dn, true, false, d ++ ⟨#[u8b ((bat s i).toNat : Int)]⟩, b + 1, x⟩), σ.length + 2, ⟨by rw [← hq1]; exact (nl7 (by omega) (by omega) (by omega) (by omega)).symm, by simp only; omega, by simp only; omega, by simp only [ByteArray.size_append]; omega, by simp only; omega, by simp only; omega⟩, by simp only; omega, by simp, ⟨rfl, rfl, rfl, rfl, rfl, rfl, rfl, rfl, rfl, rfl, rfl, trivial⟩, closed_own 2 hcl (by simp [ownLt, AO.cells, AV.ltL, AV.lt]), by simp [ltE, AV.lt], take_own 2⟩ | exact ⟨(i + 1, ⟨ng, dn, false, false, d ++ ⟨#[u8b ((bat s i).toNat : Int)]⟩, b, x⟩), σ.length + 2, ⟨by rw [← hq1]; exact (nl8 (by omega) (by omega) (by omega) (by omega)).symm, by simp only; omega, by simp only; omega, by simp only [ByteArray.size_append]; omega, by simp only; omega, by simp only; omega⟩, by simp only; omega, by simp, ⟨rfl, rfl, rfl, rfl, rfl, rfl, rfl, rfl, rfl, rfl, rfl, trivial⟩, closed_own 2 hcl (by simp [ownLt, AO.cells, AV.ltL, AV.lt]), by simp [ltE, AV.lt], take_own 2⟩
     ·(try rw [h10]); (try simp only [decide_eq_true_eq, decide_eq_false_iff_not, Bool.not_eq_true', Bool.not_eq_false', Int.not_lt, Int.not_le, Bool.not_true, Bool.not_false, Int.toNat_natCast, tn1, tn2, tm1, tnn, bne_iff_ne, beq_iff_eq, beq_eq_false_iff_ne, ne_eq, Decidable.not_not] at h10)
      refine zw2 ?_
      refine AWp_cond rfl (fun h11 => ?_) (fun h11 => ?_)
      ·(try rw [h11]); (try simp only [decide_eq_true_eq, decide_eq_false_iff_not, Bool.not_eq_true', Bool.not_eq_false', Int.not_lt, Int.not_le, Bool.not_true, Bool.not_false, Int.toNat_natCast, tn1, tn2, tm1, tnn, bne_iff_ne, beq_iff_eq, beq_eq_false_iff_ne, ne_eq, Decidable.not_not] at h11)
       refine AWp_regL ?_
       refine zv1 ?_
       refine AWp_regL ?_
       refine zv3 ?_
       first | (exfalso; omega; done) | exact ⟨(i + 1, ⟨ng, true, pt, true, d, b, x⟩), σ.length + 2, ⟨by rw [← hq1]; exact (nl1 (by omega) (by omega)).symm, by simp only; omega, by simp only; omega, by simp only [ByteArray.size_append]; omega, by simp only; omega, by simp only; omega⟩, by simp only; omega, by simp, ⟨rfl, rfl, rfl, rfl, rfl, rfl, rfl, rfl, rfl, rfl, rfl, trivial⟩, closed_own 2 hcl (by simp [ownLt, AO.cells, AV.ltL, AV.lt]), by simp [ltE, AV.lt], take_own 2⟩ | exact ⟨(i + 1, ⟨ng, dn, pt, true, d, b, min (10 * x + (bat s i).toNat - 48) 1000000⟩), σ.length + 2, ⟨by rw [← hq1]; exact (nl2 (by omega) (by omega)).symm, by simp only; omega, by simp only; omega, by simp only [ByteArray.size_append]; omega, by simp only; omega, by simp only; omega⟩, by simp only; omega, by simp, ⟨rfl, rfl, rfl, rfl, rfl, rfl, rfl, rfl, rfl, rfl, rfl, trivial⟩, closed_own 2 hcl (by simp [ownLt, AO.cells, AV.ltL, AV.lt]), by simp [ltE, AV.lt], take_own 2⟩ | exact ⟨(i + 1, ⟨ng, dn, pt, true, d, b, x⟩), σ.length + 2, ⟨by rw [← hq1]; exact (nl3 (by omega) (by omega) (by omega)).symm, by simp only; omega, by simp only; omega, by simp only [ByteArray.size_append]; omega, by simp only; omega, by simp only; omega⟩, by simp only; omega, by simp, ⟨rfl, rfl, rfl, rfl, rfl, rfl, rfl, rfl, rfl, rfl, rfl, trivial⟩, closed_own 2 hcl (by simp [ownLt, AO.cells, AV.ltL, AV.lt]), by simp [ltE, AV.lt], take_own 2⟩ | exact ⟨(i + 1, ⟨true, dn, pt, false, d, b, x⟩), σ.length + 2, ⟨by rw [← hq1]; exact (nl4 (by omega) (by omega)).symm, by simp only; omega, by simp only; omega, by simp only [ByteArray.size_append]; omega, by simp only; omega, by simp only; omega⟩, by simp only; omega, by simp, ⟨rfl, rfl, rfl, rfl, rfl, rfl, rfl, rfl, rfl, rfl, rfl, trivial⟩, closed_own 2 hcl (by simp [ownLt, AO.cells, AV.ltL, AV.lt]), by simp [ltE, AV.lt], take_own 2⟩ | exact ⟨(i + 1, ⟨ng, dn, true, false, d, b, x⟩), σ.length + 2, ⟨by rw [← hq1]; exact (nl5 (by omega) (by omega)).symm, by simp only; omega, by simp only; omega, by simp only [ByteArray.size_append]; omega, by simp only; omega, by simp only; omega⟩, by simp only; omega, by simp, ⟨rfl, rfl, rfl, rfl, rfl, rfl, rfl, rfl, rfl, rfl, rfl, trivial⟩, closed_own 2 hcl (by simp [ownLt, AO.cells, AV.ltL, AV.lt]), by simp [ltE, AV.lt], take_own 2⟩ | exact ⟨(i + 1, ⟨ng, dn, pt, true, d, b, x⟩), σ.length + 2, ⟨by rw [← hq1]; exact (nl6 (by omega) (by omega)).symm, by simp only; omega, by simp only; omega, by simp only [ByteArray.size_append]; omega, by simp only; omega, by simp only; omega⟩, by simp only; omega, by simp, ⟨rfl, rfl, rfl, rfl, rfl, rfl, rfl, rfl, rfl, rfl, rfl, trivial⟩, closed_own 2 hcl (by simp [ownLt, AO.cells, AV.ltL, AV.lt]), by simp [ltE, AV.lt], take_own 2⟩ | exact ⟨(i + 1, ⟨ng, dn, true, false, d ++ ⟨#[u8b ((bat s i).toNat : Int)]⟩, b + 1, x⟩), σ.length + 2, ⟨by rw [← hq1]; exact (nl7 (by omega) (by omega) (by omega) (by omega)).symm, by simp only; omega, by simp only; omega, by simp only [ByteArray.size_append]; omega, by simp only; omega, by simp only; omega⟩, by simp only; omega, by simp, ⟨rfl, rfl, rfl, rfl, rfl, rfl, rfl, rfl, rfl, rfl, rfl, trivial⟩, closed_own 2 hcl (by simp [ownLt, AO.cells, AV.ltL, AV.lt]), by simp [ltE, AV.lt], take_own 2⟩ | exact ⟨(i + 1, ⟨ng, dn, false, false, d ++ ⟨#[u8b ((bat s i).toNat : Int)]⟩, b, x⟩), σ.length + 2, ⟨by rw [← hq1]; exact (nl8 (by omega) (by omega) (by omega) (by omega)).symm, by simp only; omega, by simp only; omega, by simp only [ByteArray.size_append]; omega, by simp only; omega, by simp only; omega⟩, by simp only; omega, by simp, ⟨rfl, rfl, rfl, rfl, rfl, rfl, rfl, rfl, rfl, rfl, rfl, trivial⟩, closed_own 2 hcl (by simp [ownLt, AO.cells, AV.ltL, AV.lt]), by simp [ltE, AV.lt], take_own 2⟩
      ·(try rw [h11]); (try simp only [decide_eq_true_eq, decide_eq_false_iff_not, Bool.not_eq_true', Bool.not_eq_false', Int.not_lt, Int.not_le, Bool.not_true, Bool.not_false, Int.toNat_natCast, tn1, tn2, tm1, tnn, bne_iff_ne, beq_iff_eq, beq_eq_false_iff_ne, ne_eq, Decidable.not_not] at h11)
       refine zu3 ?_
       refine zsp 64 rfl (fun h12 => ?_) fun h12 => ?_
       ·rw [h12]; (try simp only [decide_eq_true_eq, decide_eq_false_iff_not, Bool.not_eq_true', Bool.not_eq_false', Int.not_lt, Int.not_le, Bool.not_true, Bool.not_false, Int.toNat_natCast, tn1, tn2, tm1, tnn, bne_iff_ne, beq_iff_eq, beq_eq_false_iff_ne, ne_eq, Decidable.not_not] at h12)
        refine zv3 ?_
        refine AWp_condT rfl ?_
        refine AWp_regL ?_
        refine zv1 ?_
        refine AWp_regL ?_
        refine zv3 ?_
        first | (exfalso; omega; done) | exact ⟨(i + 1, ⟨ng, true, pt, true, d, b, x⟩), σ.length + 2, ⟨by rw [← hq1]; exact (nl1 (by omega) (by omega)).symm, by simp only; omega, by simp only; omega, by simp only [ByteArray.size_append]; omega, by simp only; omega, by simp only; omega⟩, by simp only; omega, by simp, ⟨rfl, rfl, rfl, rfl, rfl, rfl, rfl, rfl, rfl, rfl, rfl, trivial⟩, closed_own 2 hcl (by simp [ownLt, AO.cells, AV.ltL, AV.lt]), by simp [ltE, AV.lt], take_own 2⟩ | exact ⟨(i + 1, ⟨ng, dn, pt, true, d, b, min (10 * x + (bat s i).toNat - 48) 1000000⟩), σ.length + 2, ⟨by rw [← hq1]; exact (nl2 (by omega) (by omega)).symm, by simp only; omega, by simp only; omega, by simp only [ByteArray.size_append]; omega, by simp only; omega, by simp only; omega⟩, by simp only; omega, by simp, ⟨rfl, rfl, rfl, rfl, rfl, rfl, rfl, rfl, rfl, rfl, rfl, trivial⟩, closed_own 2 hcl (by simp [ownLt, AO.cells, AV.ltL, AV.lt]), by simp [ltE, AV.lt], take_own 2⟩ | exact ⟨(i + 1, ⟨ng, dn, pt, true, d, b, x⟩), σ.length + 2, ⟨by rw [← hq1]; exact (nl3 (by omega) (by omega) (by omega)).symm, by simp only; omega, by simp only; omega, by simp only [ByteArray.size_append]; omega, by simp only; omega, by simp only; omega⟩, by simp only; omega, by simp, ⟨rfl, rfl, rfl, rfl, rfl, rfl, rfl, rfl, rfl, rfl, rfl, trivial⟩, closed_own 2 hcl (by simp [ownLt, AO.cells, AV.ltL, AV.lt]), by simp [ltE, AV.lt], take_own 2⟩ | exact ⟨(i + 1, ⟨true, dn, pt, false, d, b, x⟩), σ.length + 2, ⟨by rw [← hq1]; exact (nl4 (by omega) (by omega)).symm, by simp only; omega, by simp only; omega, by simp only [ByteArray.size_append]; omega, by simp only; omega, by simp only; omega⟩, by simp only; omega, by simp, ⟨rfl, rfl, rfl, rfl, rfl, rfl, rfl, rfl, rfl, rfl, rfl, trivial⟩, closed_own 2 hcl (by simp [ownLt, AO.cells, AV.ltL, AV.lt]), by simp [ltE, AV.lt], take_own 2⟩ | exact ⟨(i + 1, ⟨ng, dn, true, false, d, b, x⟩), σ.length + 2, ⟨by rw [← hq1]; exact (nl5 (by omega) (by omega)).symm, by simp only; omega, by simp only; omega, by simp only [ByteArray.size_append]; omega, by simp only; omega, by simp only; omega⟩, by simp only; omega, by simp, ⟨rfl, rfl, rfl, rfl, rfl, rfl, rfl, rfl, rfl, rfl, rfl, trivial⟩, closed_own 2 hcl (by simp [ownLt, AO.cells, AV.ltL, AV.lt]), by simp [ltE, AV.lt], take_own 2⟩ | exact ⟨(i + 1, ⟨ng, dn, pt, true, d, b, x⟩), σ.length + 2, ⟨by rw [← hq1]; exact (nl6 (by omega) (by omega)).symm, by simp only; omega, by simp only; omega, by simp only [ByteArray.size_append]; omega, by simp only; omega, by simp only; omega⟩, by simp only; omega, by simp, ⟨rfl, rfl, rfl, rfl, rfl, rfl, rfl, rfl, rfl, rfl, rfl, trivial⟩, closed_own 2 hcl (by simp [ownLt, AO.cells, AV.ltL, AV.lt]), by simp [ltE, AV.lt], take_own 2⟩ | exact ⟨(i + 1, ⟨ng, dn, true, false, d ++ ⟨#[u8b ((bat s i).toNat : Int)]⟩, b + 1, x⟩), σ.length + 2, ⟨by rw [← hq1]; exact (nl7 (by omega) (by omega) (by omega) (by omega)).symm, by simp only; omega, by simp only; omega, by simp only [ByteArray.size_append]; omega, by simp only; omega, by simp only; omega⟩, by simp only; omega, by simp, ⟨rfl, rfl, rfl, rfl, rfl, rfl, rfl, rfl, rfl, rfl, rfl, trivial⟩, closed_own 2 hcl (by simp [ownLt, AO.cells, AV.ltL, AV.lt]), by simp [ltE, AV.lt], take_own 2⟩ | exact ⟨(i + 1, ⟨ng, dn, false, false, d ++ ⟨#[u8b ((bat s i).toNat : Int)]⟩, b, x⟩), σ.length + 2, ⟨by rw [← hq1]; exact (nl8 (by omega) (by omega) (by omega) (by omega)).symm, by simp only; omega, by simp only; omega, by simp only [ByteArray.size_append]; omega, by simp only; omega, by simp only; omega⟩, by simp only; omega, by simp, ⟨rfl, rfl, rfl, rfl, rfl, rfl, rfl, rfl, rfl, rfl, rfl, trivial⟩, closed_own 2 hcl (by simp [ownLt, AO.cells, AV.ltL, AV.lt]), by simp [ltE, AV.lt], take_own 2⟩
       ·rw [h12]; (try simp only [decide_eq_true_eq, decide_eq_false_iff_not, Bool.not_eq_true', Bool.not_eq_false', Int.not_lt, Int.not_le, Bool.not_true, Bool.not_false, Int.toNat_natCast, tn1, tn2, tm1, tnn, bne_iff_ne, beq_iff_eq, beq_eq_false_iff_ne, ne_eq, Decidable.not_not] at h12)
        refine zv3 ?_
        refine AWp_cond rfl (fun h13 => ?_) (fun h13 => ?_)
        ·(try rw [h13]); (try simp only [decide_eq_true_eq, decide_eq_false_iff_not, Bool.not_eq_true', Bool.not_eq_false', Int.not_lt, Int.not_le, Bool.not_true, Bool.not_false, Int.toNat_natCast, tn1, tn2, tm1, tnn, bne_iff_ne, beq_iff_eq, beq_eq_false_iff_ne, ne_eq, Decidable.not_not] at h13)
         refine AWp_regL ?_
         refine zv1 ?_
         refine AWp_regL ?_
         refine zv3 ?_
         first | (exfalso; omega; done) | exact ⟨(i + 1, ⟨ng, true, pt, true, d, b, x⟩), σ.length + 2, ⟨by rw [← hq1]; exact (nl1 (by omega) (by omega)).symm, by simp only; omega, by simp only; omega, by simp only [ByteArray.size_append]; omega, by simp only; omega, by simp only; omega⟩, by simp only; omega, by simp, ⟨rfl, rfl, rfl, rfl, rfl, rfl, rfl, rfl, rfl, rfl, rfl, trivial⟩, closed_own 2 hcl (by simp [ownLt, AO.cells, AV.ltL, AV.lt]), by simp [ltE, AV.lt], take_own 2⟩ | exact ⟨(i + 1, ⟨ng, dn, pt, true, d, b, min (10 * x + (bat s i).toNat - 48) 1000000⟩), σ.length + 2, ⟨by rw [← hq1]; exact (nl2 (by omega) (by omega)).symm, by simp only; omega, by simp only; omega, by simp only [ByteArray.size_append]; omega, by simp only; omega, by simp only; omega⟩, by simp only; omega, by simp, ⟨rfl, rfl, rfl, rfl, rfl, rfl, rfl, rfl, rfl, rfl, rfl, trivial⟩, closed_own 2 hcl (by simp [ownLt, AO.cells, AV.ltL, AV.lt]), by simp [ltE, AV.lt], take_own 2⟩ | exact ⟨(i + 1, ⟨ng, dn, pt, true, d, b, x⟩), σ.length + 2, ⟨by rw [← hq1]; exact (nl3 (by omega) (by omega) (by omega)).symm, by simp only; omega, by simp only; omega, by simp only [ByteArray.size_append]; omega, by simp only; omega, by simp only; omega⟩, by simp only; omega, by simp, ⟨rfl, rfl, rfl, rfl, rfl, rfl, rfl, rfl, rfl, rfl, rfl, trivial⟩, closed_own 2 hcl (by simp [ownLt, AO.cells, AV.ltL, AV.lt]), by simp [ltE, AV.lt], take_own 2⟩ | exact ⟨(i + 1, ⟨true, dn, pt, false, d, b, x⟩), σ.length + 2, ⟨by rw [← hq1]; exact (nl4 (by omega) (by omega)).symm, by simp only; omega, by simp only; omega, by simp only [ByteArray.size_append]; omega, by simp only; omega, by simp only; omega⟩, by simp only; omega, by simp, ⟨rfl, rfl, rfl, rfl, rfl, rfl, rfl, rfl, rfl, rfl, rfl, trivial⟩, closed_own 2 hcl (by simp [ownLt, AO.cells, AV.ltL, AV.lt]), by simp [ltE, AV.lt], take_own 2⟩ | exact ⟨(i + 1, ⟨ng, dn, true, false, d, b, x⟩), σ.length + 2, ⟨by rw [← hq1]; exact (nl5 (by omega) (by omega)).symm, by simp only; omega, by simp only; omega, by simp only [ByteArray.size_append]; omega, by simp only; omega, by simp only; omega⟩, by simp only; omega, by simp, ⟨rfl, rfl, rfl, rfl, rfl, rfl, rfl, rfl, rfl, rfl, rfl, trivial⟩, closed_own 2 hcl (by simp [ownLt, AO.cells, AV.ltL, AV.lt]), by simp [ltE, AV.lt], take_own 2⟩ | exact ⟨(i + 1, ⟨ng, dn, pt, true, d, b, x⟩), σ.length + 2, ⟨by rw [← hq1]; exact (nl6 (by omega) (by omega)).symm, by simp only; omega, by simp only; omega, by simp only [ByteArray.size_append]; omega, by simp only; omega, by simp only; omega⟩, by simp only; omega, by simp, ⟨rfl, rfl, rfl, rfl, rfl, rfl, rfl, rfl, rfl, rfl, rfl, trivial⟩, closed_own 2 hcl (by simp [ownLt, AO.cells, AV.ltL, AV.lt]), by simp [ltE, AV.lt], take_own 2⟩ | exact ⟨(i + 1, ⟨ng, dn, true, false, d ++ ⟨#[u8b ((bat s i).toNat : Int)]⟩, b + 1, x⟩), σ.length + 2, ⟨by rw [← hq1]; exact (nl7 (by omega) (by omega) (by omega) (by omega)).symm, by simp only; omega, by simp only; omega, by simp only [ByteArray.size_append]; omega, by simp only; omega, by simp only; omega⟩, by simp only; omega, by simp, ⟨rfl, rfl, rfl, rfl, rfl, rfl, rfl, rfl, rfl, rfl, rfl, trivial⟩, closed_own 2 hcl (by simp [ownLt, AO.cells, AV.ltL, AV.lt]), by simp [ltE, AV.lt], take_own 2⟩ | exact ⟨(i + 1, ⟨ng, dn, false, false, d ++ ⟨#[u8b ((bat s i).toNat : Int)]⟩, b, x⟩), σ.length + 2, ⟨by rw [← hq1]; exact (nl8 (by omega) (by omega) (by omega) (by omega)).symm, by simp only; omega, by simp only; omega, by simp only [ByteArray.size_append]; omega, by simp only; omega, by simp only; omega⟩, by simp only; omega, by simp, ⟨rfl, rfl, rfl, rfl, rfl, rfl, rfl, rfl, rfl, rfl, rfl, trivial⟩, closed_own 2 hcl (by simp [ownLt, AO.cells, AV.ltL, AV.lt]), by simp [ltE, AV.lt], take_own 2⟩
        ·(try rw [h13]); (try simp only [decide_eq_true_eq, decide_eq_false_iff_not, Bool.not_eq_true', Bool.not_eq_false', Int.not_lt, Int.not_le, Bool.not_true, Bool.not_false, Int.toNat_natCast, tn1, tn2, tm1, tnn, bne_iff_ne, beq_iff_eq, beq_eq_false_iff_ne, ne_eq, Decidable.not_not] at h13)
         refine zu2 ?_
         refine zt rfl (op_buildSlice [[_]] rfl Tryd.underlying87 Tryd.sizeOf5 Tryd.zeroValue5 rfl (by decide) (by decide) rfl rfl rfl rfl rfl) ?_
         refine zt rfl (op_bytesStr (b := _) (m := 1) rfl Tryd.underlying87 Tryd.underlying5 Tryd.underlying9 (bs1 ⟨by omega, by omega⟩) rfl rfl) ?_
         refine zv2 ?_
         refine zw1 ?_
         refine AWp_cond rfl (fun h14 => ?_) (fun h14 => ?_)
         ·(try rw [h14]); (try simp only [decide_eq_true_eq, decide_eq_false_iff_not, Bool.not_eq_true', Bool.not_eq_false', Int.not_lt, Int.not_le, Bool.not_true, Bool.not_false, Int.toNat_natCast, tn1, tn2, tm1, tnn, bne_iff_ne, beq_iff_eq, beq_eq_false_iff_ne, ne_eq, Decidable.not_not] at h14)
          subst h14
          refine AWp_regL ?_
          refine zv3 ?_
          refine AWp_regL ?_
          refine zv3 ?_
          first | (exfalso; omega; done) | exact ⟨(i + 1, ⟨ng, true, pt, true, d, b, x⟩), σ.length + 2, ⟨by rw [← hq1]; exact (nl1 (by omega) (by omega)).symm, by simp only; omega, by simp only; omega, by simp only [ByteArray.size_append]; omega, by simp only; omega, by simp only; omega⟩, by simp only; omega, by simp, ⟨rfl, rfl, rfl, rfl, rfl, rfl, rfl, rfl, rfl, rfl, rfl, trivial⟩, closed_own 2 hcl (by simp [ownLt, AO.cells, AV.ltL, AV.lt]), by simp [ltE, AV.lt], take_own 2⟩ | exact ⟨(i + 1, ⟨ng, dn, pt, true, d, b, min (10 * x + (bat s i).toNat - 48) 1000000⟩), σ.length + 2, ⟨by rw [← hq1]; exact (nl2 (by omega) (by omega)).symm, by simp only; omega, by simp only; omega, by simp only [ByteArray.size_append]; omega, by simp only; omega, by simp only; omega⟩, by simp only; omega, by simp, ⟨rfl, rfl, rfl, rfl, rfl, rfl, rfl, rfl, rfl, rfl, rfl, trivial⟩, closed_own 2 hcl (by simp [ownLt, AO.cells, AV.ltL, AV.lt]), by simp [ltE, AV.lt], take_own 2⟩ | exact ⟨(i + 1, ⟨ng, dn, pt, true, d, b, x⟩), σ.length + 2, ⟨by rw [← hq1]; exact (nl3 (by omega) (by omega) (by omega)).symm, by simp only; omega, by simp only; omega, by simp only [ByteArray.size_append]; omega, by simp only; omega, by simp only; omega⟩, by simp only; omega, by simp, ⟨rfl, rfl, rfl, rfl, rfl, rfl, rfl, rfl, rfl, rfl, rfl, trivial⟩, closed_own 2 hcl (by simp [ownLt, AO.cells, AV.ltL, AV.lt]), by simp [ltE, AV.lt], take_own 2⟩ | exact ⟨(i + 1, ⟨true, dn, pt, false, d, b, x⟩), σ.length + 2, ⟨by rw [← hq1]; exact (nl4 (by omega) (by omega)).symm, by simp only; omega, by simp only; omega, by simp only [ByteArray.size_append]; omega, by simp only; omega, by simp only; omega⟩, by simp only; omega, by simp, ⟨rfl, rfl, rfl, rfl, rfl, rfl, rfl, rfl, rfl, rfl, rfl, trivial⟩, closed_own 2 hcl (by simp [ownLt, AO.cells, AV.ltL, AV.lt]), by simp [ltE, AV.lt], take_own 2⟩ | exact ⟨(i + 1, ⟨ng, dn, true, false, d, b, x⟩), σ.length + 2, ⟨by rw [← hq1]; exact (nl5 (by omega) (by omega)).symm, by simp only; omega, by simp only; omega, by simp only [ByteArray.size_append]; omega, by simp only; omega, by simp only; omega⟩, by simp only; omega, by simp, ⟨rfl, rfl, rfl, rfl, rfl, rfl, rfl, rfl, rfl, rfl, rfl, trivial⟩, closed_own 2 hcl (by simp [ownLt, AO.cells, AV.ltL, AV.lt]), by simp [ltE, AV.lt], take_own 2⟩ | exact ⟨(i + 1, ⟨ng, dn, pt, true, d, b, x⟩), σ.length + 2, ⟨by rw [← hq1]; exact (nl6 (by omega) (by omega)).symm, by simp only; omega, by simp only; omega, by simp only [ByteArray.size_append]; omega, by simp only; omega, by simp only; omega⟩, by simp only; omega, by simp, ⟨rfl, rfl, rfl, rfl, rfl, rfl, rfl, rfl, rfl, rfl, rfl, trivial⟩, closed_own 2 hcl (by simp [ownLt, AO.cells, AV.ltL, AV.lt]), by simp [ltE, AV.lt], take_own 2⟩ | exact ⟨(i + 1, ⟨ng, dn, true, false, d ++ ⟨#[u8b ((bat s i).toNat : Int)]⟩, b + 1, x⟩), σ.length + 2, ⟨by rw [← hq1]; exact (nl7 (by omega) (by omega) (by omega) (by omega)).symm, by simp only; omega, by simp only; omega, by simp only [ByteArray.size_append]; omega, by simp only; omega, by simp only; omega⟩, by simp only; omega, by simp, ⟨rfl, rfl, rfl, rfl, rfl, rfl, rfl, rfl, rfl, rfl, rfl, trivial⟩, closed_own 2 hcl (by simp [ownLt, AO.cells, AV.ltL, AV.lt]), by simp [ltE, AV.lt], take_own 2⟩ | exact ⟨(i + 1, ⟨ng, dn, false, false, d ++ ⟨#[u8b ((bat s i).toNat : Int)]⟩, b, x⟩), σ.length + 2, ⟨by rw [← hq1]; exact (nl8 (by omega) (by omega) (by omega) (by omega)).symm, by simp only; omega, by simp only; omega, by simp only [ByteArray.size_append]; omega, by simp only; omega, by simp only; omega⟩, by simp only; omega, by simp, ⟨rfl, rfl, rfl, rfl, rfl, rfl, rfl, rfl, rfl, rfl, rfl, trivial⟩, closed_own 2 hcl (by simp [ownLt, AO.cells, AV.ltL, AV.lt]), by simp [ltE, AV.lt], take_own 2⟩
         ·(try rw [h14]); (try simp only [decide_eq_true_eq, decide_eq_false_iff_not, Bool.not_eq_true', Bool.not_eq_false', Int.not_lt, Int.not_le, Bool.not_true, Bool.not_false, Int.toNat_natCast, tn1, tn2, tm1, tnn, bne_iff_ne, beq_iff_eq, beq_eq_false_iff_ne, ne_eq, Decidable.not_not] at h14)
          subst h14
          refine AWp_skip ?_
          refine AWp_regL ?_
          refine zv3 ?_
          first | (exfalso; omega; done) | exact ⟨(i + 1, ⟨ng, true, pt, true, d, b, x⟩), σ.length + 2, ⟨by rw [← hq1]; exact (nl1 (by omega) (by omega)).symm, by simp only; omega, by simp only; omega, by simp only [ByteArray.size_append]; omega, by simp only; omega, by simp only; omega⟩, by simp only; omega, by simp, ⟨rfl, rfl, rfl, rfl, rfl, rfl, rfl, rfl, rfl, rfl, rfl, trivial⟩, closed_own 2 hcl (by simp [ownLt, AO.cells, AV.ltL, AV.lt]), by simp [ltE, AV.lt], take_own 2⟩ | exact ⟨(i + 1, ⟨ng, dn, pt, true, d, b, min (10 * x + (bat s i).toNat - 48) 1000000⟩), σ.length + 2, ⟨by rw [← hq1]; exact (nl2 (by omega) (by omega)).symm, by simp only; omega, by simp only; omega, by simp only [ByteArray.size_append]; omega, by simp only; omega, by simp only; omega⟩, by simp only; omega, by simp, ⟨rfl, rfl, rfl, rfl, rfl, rfl, rfl, rfl, rfl, rfl, rfl, trivial⟩, closed_own 2 hcl (by simp [ownLt, AO.cells, AV.ltL, AV.lt]), by simp [ltE, AV.lt], take_own 2⟩ | exact ⟨(i + 1, ⟨ng, dn, pt, true, d, b, x⟩), σ.length + 2, ⟨by rw [← hq1]; exact (nl3 (by omega) (by omega) (by omega)).symm, by simp only; omega, by simp only; omega, by simp only [ByteArray.size_append]; omega, by simp only; omega, by simp only; omega⟩, by simp only; omega, by simp, ⟨rfl, rfl, rfl, rfl, rfl, rfl, rfl, rfl, rfl, rfl, rfl, trivial⟩, closed_own 2 hcl (by simp [ownLt, AO.cells, AV.ltL, AV.lt]), by simp [ltE, AV.lt], take_own 2⟩ | exact ⟨(i + 1, ⟨true, dn, pt, false, d, b, x⟩), σ.length + 2, ⟨by rw [← hq1]; exact (nl4 (by omega) (by omega)).symm, by simp only; omega, by simp only; omega, by simp only [ByteArray.size_append]; omega, by simp only; omega, by simp only; omega⟩, by simp only; omega, by simp, ⟨rfl, rfl, rfl, rfl, rfl, rfl, rfl, rfl, rfl, rfl, rfl, trivial⟩, closed_own 2 hcl (by simp [ownLt, AO.cells, AV.ltL, AV.lt]), by simp [ltE, AV.lt], take_own 2⟩ | exact ⟨(i + 1, ⟨ng, dn, true, false, d, b, x⟩), σ.length + 2, ⟨by rw [← hq1]; exact (nl5 (by omega) (by omega)).symm, by simp only; omega, by simp only; omega, by simp only [ByteArray.size_append]; omega, by simp only; omega, by simp only; omega⟩, by simp only; omega, by simp, ⟨rfl, rfl, rfl, rfl, rfl, rfl, rfl, rfl, rfl, rfl, rfl, trivial⟩, closed_own 2 hcl (by simp [ownLt, AO.cells, AV.ltL, AV.lt]), by simp [ltE, AV.lt], take_own 2⟩ | exact ⟨(i + 1, ⟨ng, dn, pt, true, d, b, x⟩), σ.length + 2, ⟨by rw [← hq1]; exact (nl6 (by omega) (by omega)).symm, by simp only; omega, by simp only; omega, by simp only [ByteArray.size_append]; omega, by simp only; omega, by simp only; omega⟩, by simp only; omega, by simp, ⟨rfl, rfl, rfl, rfl, rfl, rfl, rfl, rfl, rfl, rfl, rfl, trivial⟩, closed_own 2 hcl (by simp [ownLt, AO.cells, AV.ltL, AV.lt]), by simp [ltE, AV.lt], take_own 2⟩ | exact ⟨(i + 1, ⟨ng, dn, true, false, d ++ ⟨#[u8b ((bat s i).toNat : Int)]⟩, b + 1, x⟩), σ.length + 2, ⟨by rw [← hq1]; exact (nl7 (by omega) (by omega) (by omega) (by omega)).symm, by simp only; omega, by simp only; omega, by simp only [ByteArray.size_append]; omega, by simp only; omega, by simp only; omega⟩, by simp only; omega, by simp, ⟨rfl, rfl, rfl, rfl, rfl, rfl, rfl, rfl, rfl, rfl, rfl, trivial⟩, closed_own 2 hcl (by simp [ownLt, AO.cells, AV.ltL, AV.lt]), by simp [ltE, AV.lt], take_own 2⟩ | exact ⟨(i + 1, ⟨ng, dn, false, false, d ++ ⟨#[u8b ((bat s i).toNat : Int)]⟩, b, x⟩), σ.length + 2, ⟨by rw [← hq1]; exact (nl8 (by omega) (by omega) (by omega) (by omega)).symm, by simp only; omega, by simp only; omega, by simp only [ByteArray.size_append]; omega, by simp only; omega, by simp only; omega⟩, by simp only; omega, by simp, ⟨rfl, rfl, rfl, rfl, rfl, rfl, rfl, rfl, rfl, rfl, rfl, trivial⟩, closed_own 2 hcl (by simp [ownLt, AO.cells, AV.ltL, AV.lt]), by simp [ltE, AV.lt], take_own 2⟩
   ·(try rw [h3]); (try simp only [decide_eq_true_eq, decide_eq_false_iff_not, Bool.not_eq_true', Bool.not_eq_false', Int.not_lt, Int.not_le, Bool.not_true, Bool.not_false, Int.toNat_natCast, tn1, tn2, tm1, tnn, bne_iff_ne, beq_iff_eq, beq_eq_false_iff_ne, ne_eq, Decidable.not_not] at h3)
    have ht : nloop s 0 nst0 = ⟨ng, dn, pt, pw, d, b, x⟩ := by rw [← hq1]; exact nl0 (by omega)
    refine AWp_exit ?_
    refine AWp_join (ι := Int) (fun xx => xx = nsgn ⟨ng, dn, pt, pw, d, b, x⟩ ∧ -1000000 ≤ xx ∧ xx ≤ 1000000) (fun xx => ⟨[], [(2, .ptr (σ.length + 0) 0), (6, .ptr (σ.length + 1) 0), (7, .str d), (8, .int .i64 b), (10, .int .i64 xx)]⟩) (fun xx => σ ++ [.box [.bool false, .str e0, .int .i64 0], .box [.bool ng, .str e0, .int .i64 0]]) ?_ (fun xx hj => ?_)
    ·skip
     refine zw1 ?_
     refine AWp_cond rfl (fun h15 => ?_) (fun h15 => ?_)
     ·(try rw [h15]); (try simp only [decide_eq_true_eq, decide_eq_false_iff_not, Bool.not_eq_true', Bool.not_eq_false', Int.not_lt, Int.not_le, Bool.not_true, Bool.not_false, Int.toNat_natCast, tn1, tn2, tm1, tnn, bne_iff_ne, beq_iff_eq, beq_eq_false_iff_ne, ne_eq, Decidable.not_not] at h15)
      subst h15
      refine AWp_regL ?_
      refine zg1 ?_
      refine zt rfl (op_neg64 rfl rfl (by omega) (by omega)) ?_
      refine zv1 ?_
      first | exact ⟨-x, ⟨by simp [nsgn], by omega, by omega⟩, ⟨rfl, rfl, rfl, rfl, rfl, rfl, trivial⟩, rfl⟩ | exact ⟨x, ⟨by simp [nsgn], by omega, by omega⟩, ⟨rfl, rfl, rfl, rfl, rfl, rfl, trivial⟩, rfl⟩
     ·(try rw [h15]); (try simp only [decide_eq_true_eq, decide_eq_false_iff_not, Bool.not_eq_true', Bool.not_eq_false', Int.not_lt, Int.not_le, Bool.not_true, Bool.not_false, Int.toNat_natCast, tn1, tn2, tm1, tnn, bne_iff_ne, beq_iff_eq, beq_eq_false_iff_ne, ne_eq, Decidable.not_not] at h15)
      subst h15
      refine AWp_skip ?_
      first | exact ⟨-x, ⟨by simp [nsgn], by omega, by omega⟩, ⟨rfl, rfl, rfl, rfl, rfl, rfl, trivial⟩, rfl⟩ | exact ⟨x, ⟨by simp [nsgn], by omega, by omega⟩, ⟨rfl, rfl, rfl, rfl, rfl, rfl, trivial⟩, rfl⟩
    ·skip
     obtain ⟨hx1, hx2, hx3⟩ := hj
     refine zw4 ?_
     refine zw1 ?_
     refine AWp_seq ?_
     refine AWp_block ?_
     -- loop 1 LIVE 2:alloc 3:assign 6:alloc 7:assign 10:assign 15:assign
     refine AWp_loop (ι := Nat) (fun f => fz d f = fz d 0 ∧ f ≤ d.size) (fun f => ⟨[], [(2, .ptr (σ.length + 0) 0), (6, .ptr (σ.length + 1) 0), (7, .str d), (10, .int .i64 (xx - b)), (15, .int .i64 (f : Int))]⟩) (fun f => σ ++ [_, _]) (fun f => d.size - f) (0) (⟨rfl, Nat.zero_le _⟩) ?_ rfl (fun f hf => ?_)
     ·exact ⟨rfl, rfl, rfl, rfl, rfl, rfl, trivial⟩
     obtain ⟨hf1, hf2⟩ := hf
     refine AWp_seq ?_
     refine zu5 ?_
     refine zsp 86 rfl (fun h16 => ?_) fun h16 => ?_
     ·rw [h16]; (try simp only [decide_eq_true_eq, decide_eq_false_iff_not, Bool.not_eq_true', Bool.not_eq_false', Int.not_lt, Int.not_le, Bool.not_true, Bool.not_false, Int.toNat_natCast, tn1, tn2, tm1, tnn, bne_iff_ne, beq_iff_eq, beq_eq_false_iff_ne, ne_eq, Decidable.not_not] at h16)
      refine zv5 ?_
      refine AWp_cond rfl (fun h17 => ?_) (fun h17 => ?_)
      ·(try rw [h17]); (try simp only [decide_eq_true_eq, decide_eq_false_iff_not, Bool.not_eq_true', Bool.not_eq_false', Int.not_lt, Int.not_le, Bool.not_true, Bool.not_false, Int.toNat_natCast, tn1, tn2, tm1, tnn, bne_iff_ne, beq_iff_eq, beq_eq_false_iff_ne, ne_eq, Decidable.not_not] at h17)
       refine AWp_skip ?_
       refine AWp_block ?_
       refine AWp_regL ?_
       refine zv3 ?_
       exact ⟨f + 1, σ.length + 2, ⟨by rw [← hf1]; exact (fz_yes (by omega) (by omega)).symm, by omega⟩, by omega, by simp, ⟨rfl, rfl, rfl, rfl, rfl, rfl, trivial⟩, closed_own 2 hcl (by simp [ownLt, AO.cells, AV.ltL, AV.lt]), by simp [ltE, AV.lt], take_own 2⟩
      ·(try rw [h17]); (try simp only [decide_eq_true_eq, decide_eq_false_iff_not, Bool.not_eq_true', Bool.not_eq_false', Int.not_lt, Int.not_le, Bool.not_true, Bool.not_false, Int.toNat_natCast, tn1, tn2, tm1, tnn, bne_iff_ne, beq_iff_eq, beq_eq_false_iff_ne, ne_eq, Decidable.not_not] at h17)
       refine AWp_exit ?_
       refine zw3 ?_
       refine AWp_seq ?_
       refine AWp_block ?_
       -- loop 2 LIVE 2:alloc 3:assign 6:alloc 7:assign 10:assign 15:assign 16:assign
       have hff : fz d 0 = f := by rw [← hf1]; exact fz_no (by omega)
       refine AWp_loop (ι := Nat) (fun l => lz d f l = lz d f d.size ∧ f ≤ l ∧ l ≤ d.size) (fun l => ⟨[], [(2, .ptr (σ.length + 0) 0), (6, .ptr (σ.length + 1) 0), (7, .str d), (10, .int .i64 (xx - b + ((d.size : Int) - l))), (15, .int .i64 (f : Int)), (16, .int .i64 (l : Int))]⟩) (fun l => σ ++ [_, _]) (fun l => l) (d.size) (⟨rfl, hf2, Nat.le_refl _⟩) ?_ rfl (fun l hl => ?_)
       ·refine ⟨rfl, rfl, rfl, rfl, ?_, rfl, rfl, trivial⟩
        rw [Int.sub_self, Int.add_zero]; rfl
       obtain ⟨hl1, hl2, hl3⟩ := hl
       refine AWp_seq ?_
       refine zu4 ?_
       refine zsp 99 rfl (fun h18 => ?_) fun h18 => ?_
       ·rw [h18]; (try simp only [decide_eq_true_eq, decide_eq_false_iff_not, Bool.not_eq_true', Bool.not_eq_false', Int.not_lt, Int.not_le, Bool.not_true, Bool.not_false, Int.toNat_natCast, tn1, tn2, tm1, tnn, bne_iff_ne, beq_iff_eq, beq_eq_false_iff_ne, ne_eq, Decidable.not_not] at h18)
        refine zv6 ?_
        refine AWp_cond rfl (fun h19 => ?_) (fun h19 => ?_)
        ·(try rw [h19]); (try simp only [decide_eq_true_eq, decide_eq_false_iff_not, Bool.not_eq_true', Bool.not_eq_false', Int.not_lt, Int.not_le, Bool.not_true, Bool.not_false, Int.toNat_natCast, tn1, tn2, tm1, tnn, bne_iff_ne, beq_iff_eq, beq_eq_false_iff_ne, ne_eq, Decidable.not_not] at h19)
         refine AWp_skip ?_
         refine AWp_block ?_
         refine zw3 ?_
         refine AWp_regL ?_
         refine zv3 ?_
         refine ⟨l - 1, σ.length + 2, ⟨by rw [← hl1]; exact (lz_yes (by omega) (by omega)).symm, by omega⟩, by omega, by simp, ⟨rfl, rfl, rfl, rfl, ?_, rfl, ?_, trivial⟩, closed_own 2 hcl (by simp [ownLt, AO.cells, AV.ltL, AV.lt]), by simp [ltE, AV.lt], take_own 2⟩
         ·rw [show xx - b + ((d.size : Int) - ((l - 1 : Nat) : Int)) = xx - b + ((d.size : Int) - (l : Int)) + 1 by omega]; rfl
         ·rw [show ((l - 1 : Nat) : Int) = (l : Int) - 1 by omega]; rfl
        ·(try rw [h19]); (try simp only [decide_eq_true_eq, decide_eq_false_iff_not, Bool.not_eq_true', Bool.not_eq_false', Int.not_lt, Int.not_le, Bool.not_true, Bool.not_false, Int.toNat_natCast, tn1, tn2, tm1, tnn, bne_iff_ne, beq_iff_eq, beq_eq_false_iff_ne, ne_eq, Decidable.not_not] at h19)
         refine AWp_exit ?_
         refine AWp_seq ?_
         refine zsr ?_
         have hll : lz d f d.size = l := by rw [← hl1]; exact lz_no (by omega) hl2
         have hxs : (d.extract f l).size ≤ d.size := by rw [ByteArray.size_extract]; omega
         have hnf : nF ⟨ng, dn, pt, pw, d, b, x⟩ = f := hff
         have hnl : nL ⟨ng, dn, pt, pw, d, b, x⟩ = l := by unfold nL; rw [hnf]; exact hll
         have hof : nOf ⟨ng, dn, pt, pw, d, b, x⟩ = ⟨ng, d.extract f l, xx - b + ((d.size : Int) - l)⟩ := by unfold nOf; rw [hnf, hnl, ← hx1]
         refine zv3 ?_
         refine AWp_cond rfl (fun h20 => ?_) (fun h20 => ?_)
         ·(try rw [h20]); (try simp only [decide_eq_true_eq, decide_eq_false_iff_not, Bool.not_eq_true', Bool.not_eq_false', Int.not_lt, Int.not_le, Bool.not_true, Bool.not_false, Int.toNat_natCast, tn1, tn2, tm1, tnn, bne_iff_ne, beq_iff_eq, beq_eq_false_iff_ne, ne_eq, Decidable.not_not] at h20)
          refine zw3 ?_
          refine zrt ?_
          first | (exfalso; omega; done) | (have hE : rNum s = ({}, 0) := by unfold rNum; rw [if_neg (by simp [h1]; omega), ht, if_pos (by rw [hnf, hnl]; omega)]); rw [hE]; exact RQ_ret (rkvs_cons (rkv_ck rfl rfl rfl) (rkvs_cons (rkv_t rfl) rfl)) hcl (by simp [rks, AV.lt, AV.ltL, ofConst1, ncells]) (Ret_of rfl) | (have hE : rNum s = ({}, 5) := by unfold rNum; rw [if_neg (by simp [h1]; omega), ht, if_neg (by rw [hnf, hnl]; omega), if_neg (by rw [hof]; exact (pb_niff _).1 (by assumption))]); rw [hE]; exact RQ_ret (rkvs_cons (rkv_ck rfl rfl rfl) (rkvs_cons (rkv_t rfl) rfl)) hcl (by simp [rks, AV.lt, AV.ltL, ofConst1, ncells]) (Ret_of rfl) | (have hE : rNum s = (⟨ng, d.extract f l, xx - b + ((d.size : Int) - l)⟩, 0) := by unfold rNum; rw [if_neg (by simp [h1]; omega), ht, if_neg (by rw [hnf, hnl]; omega), if_pos (by rw [hof]; exact (pb_iff _).1 (by assumption)), hof]); rw [hE]; exact RQ_ret (rkvs_cons (rkv_ck rfl rfl rfl) (rkvs_cons (rkv_t rfl) rfl)) hcl (by simp [rks, AV.lt, AV.ltL, ofConst1, ncells]) (Ret_of rfl)
         ·(try rw [h20]); (try simp only [decide_eq_true_eq, decide_eq_false_iff_not, Bool.not_eq_true', Bool.not_eq_false', Int.not_lt, Int.not_le, Bool.not_true, Bool.not_false, Int.toNat_natCast, tn1, tn2, tm1, tnn, bne_iff_ne, beq_iff_eq, beq_eq_false_iff_ne, ne_eq, Decidable.not_not] at h20)
          refine AWp_skip ?_
          refine zu4 ?_
          simp only [Int.toNat_natCast]
          refine zg1 ?_
          refine ztN rfl rfl (op_storeO (r := [.bool ng, .str (d.extract f l), .int .i64 0]) rfl Tryd.sizeOf9 rfl rfl rfl rfl rfl (by decide)) ?_
          refine zon ?_
          refine zu2 ?_
          refine ztN rfl rfl (op_storeO (r := [.bool ng, .str (d.extract f l), .int .i64 (xx - b + ((d.size : Int) - l))]) rfl Tryd.sizeOf3 rfl rfl rfl rfl rfl (by decide)) ?_
          refine zon ?_
          refine zu1 ?_
          refine zt rfl (zc rfl (mayNum_c ⟨ng, d.extract f l, xx - b + ((d.size : Int) - l)⟩ _ (by simp only; omega))) ?_
          refine zv1 ?_
          refine AWp_seq ?_
          refine zw2 ?_
          refine AWp_cond rfl (fun h21 => ?_) (fun h21 => ?_)
          ·(try rw [h21]); (try simp only [decide_eq_true_eq, decide_eq_false_iff_not, Bool.not_eq_true', Bool.not_eq_false', Int.not_lt, Int.not_le, Bool.not_true, Bool.not_false, Int.toNat_natCast, tn1, tn2, tm1, tnn, bne_iff_ne, beq_iff_eq, beq_eq_false_iff_ne, ne_eq, Decidable.not_not] at h21)
           refine zw3 ?_
           refine zrt ?_
           first | (exfalso; omega; done) | (have hE : rNum s = ({}, 0) := by unfold rNum; rw [if_neg (by simp [h1]; omega), ht, if_pos (by rw [hnf, hnl]; omega)]); rw [hE]; exact RQ_ret (rkvs_cons (rkv_ck rfl rfl rfl) (rkvs_cons (rkv_t rfl) rfl)) hcl (by simp [rks, AV.lt, AV.ltL, ofConst1, ncells]) (Ret_of rfl) | (have hE : rNum s = ({}, 5) := by unfold rNum; rw [if_neg (by simp [h1]; omega), ht, if_neg (by rw [hnf, hnl]; omega), if_neg (by rw [hof]; exact (pb_niff _).1 (by assumption))]); rw [hE]; exact RQ_ret (rkvs_cons (rkv_ck rfl rfl rfl) (rkvs_cons (rkv_t rfl) rfl)) hcl (by simp [rks, AV.lt, AV.ltL, ofConst1, ncells]) (Ret_of rfl) | (have hE : rNum s = (⟨ng, d.extract f l, xx - b + ((d.size : Int) - l)⟩, 0) := by unfold rNum; rw [if_neg (by simp [h1]; omega), ht, if_neg (by rw [hnf, hnl]; omega), if_pos (by rw [hof]; exact (pb_iff _).1 (by assumption)), hof]); rw [hE]; exact RQ_ret (rkvs_cons (rkv_ck rfl rfl rfl) (rkvs_cons (rkv_t rfl) rfl)) hcl (by simp [rks, AV.lt, AV.ltL, ofConst1, ncells]) (Ret_of rfl)
          ·(try rw [h21]); (try simp only [decide_eq_true_eq, decide_eq_false_iff_not, Bool.not_eq_true', Bool.not_eq_false', Int.not_lt, Int.not_le, Bool.not_true, Bool.not_false, Int.toNat_natCast, tn1, tn2, tm1, tnn, bne_iff_ne, beq_iff_eq, beq_eq_false_iff_ne, ne_eq, Decidable.not_not] at h21)
           refine AWp_skip ?_
           refine zw3 ?_
           refine zrt ?_
           first | (exfalso; omega; done) | (have hE : rNum s = ({}, 0) := by unfold rNum; rw [if_neg (by simp [h1]; omega), ht, if_pos (by rw [hnf, hnl]; omega)]); rw [hE]; exact RQ_ret (rkvs_cons (rkv_ck rfl rfl rfl) (rkvs_cons (rkv_t rfl) rfl)) hcl (by simp [rks, AV.lt, AV.ltL, ofConst1, ncells]) (Ret_of rfl) | (have hE : rNum s = ({}, 5) := by unfold rNum; rw [if_neg (by simp [h1]; omega), ht, if_neg (by rw [hnf, hnl]; omega), if_neg (by rw [hof]; exact (pb_niff _).1 (by assumption))]); rw [hE]; exact RQ_ret (rkvs_cons (rkv_ck rfl rfl rfl) (rkvs_cons (rkv_t rfl) rfl)) hcl (by simp [rks, AV.lt, AV.ltL, ofConst1, ncells]) (Ret_of rfl) | (have hE : rNum s = (⟨ng, d.extract f l, xx - b + ((d.size : Int) - l)⟩, 0) := by unfold rNum; rw [if_neg (by simp [h1]; omega), ht, if_neg (by rw [hnf, hnl]; omega), if_pos (by rw [hof]; exact (pb_iff _).1 (by assumption)), hof]); rw [hE]; exact RQ_ret (rkvs_cons (rkv_ck rfl rfl rfl) (rkvs_cons (rkv_t rfl) rfl)) hcl (by simp [rks, AV.lt, AV.ltL, ofConst1, ncells]) (Ret_of rfl)
       ·rw [h18]; (try simp only [decide_eq_true_eq, decide_eq_false_iff_not, Bool.not_eq_true', Bool.not_eq_false', Int.not_lt, Int.not_le, Bool.not_true, Bool.not_false, Int.toNat_natCast, tn1, tn2, tm1, tnn, bne_iff_ne, beq_iff_eq, beq_eq_false_iff_ne, ne_eq, Decidable.not_not] at h18)
        refine zv6 ?_
        refine AWp_condF rfl ?_
        refine AWp_exit ?_
        refine AWp_seq ?_
        refine zsr ?_
        have hll : lz d f d.size = l := by rw [← hl1]; exact lz_no (by omega) hl2
        have hxs : (d.extract f l).size ≤ d.size := by rw [ByteArray.size_extract]; omega
        have hnf : nF ⟨ng, dn, pt, pw, d, b, x⟩ = f := hff
        have hnl : nL ⟨ng, dn, pt, pw, d, b, x⟩ = l := by unfold nL; rw [hnf]; exact hll
        have hof : nOf ⟨ng, dn, pt, pw, d, b, x⟩ = ⟨ng, d.extract f l, xx - b + ((d.size : Int) - l)⟩ := by unfold nOf; rw [hnf, hnl, ← hx1]
        refine zv3 ?_
        refine AWp_cond rfl (fun h22 => ?_) (fun h22 => ?_)
        ·(try rw [h22]); (try simp only [decide_eq_true_eq, decide_eq_false_iff_not, Bool.not_eq_true', Bool.not_eq_false', Int.not_lt, Int.not_le, Bool.not_true, Bool.not_false, Int.toNat_natCast, tn1, tn2, tm1, tnn, bne_iff_ne, beq_iff_eq, beq_eq_false_iff_ne, ne_eq, Decidable.not_not] at h22)
         refine zw3 ?_
         refine zrt ?_
         first | (exfalso; omega; done) | (have hE : rNum s = ({}, 0) := by unfold rNum; rw [if_neg (by simp [h1]; omega), ht, if_pos (by rw [hnf, hnl]; omega)]); rw [hE]; exact RQ_ret (rkvs_cons (rkv_ck rfl rfl rfl) (rkvs_cons (rkv_t rfl) rfl)) hcl (by simp [rks, AV.lt, AV.ltL, ofConst1, ncells]) (Ret_of rfl) | (have hE : rNum s = ({}, 5) := by unfold rNum; rw [if_neg (by simp [h1]; omega), ht, if_neg (by rw [hnf, hnl]; omega), if_neg (by rw [hof]; exact (pb_niff _).1 (by assumption))]); rw [hE]; exact RQ_ret (rkvs_cons (rkv_ck rfl rfl rfl) (rkvs_cons (rkv_t rfl) rfl)) hcl (by simp [rks, AV.lt, AV.ltL, ofConst1, ncells]) (Ret_of rfl) | (have hE : rNum s = (⟨ng, d.extract f l, xx - b + ((d.size : Int) - l)⟩, 0) := by unfold rNum; rw [if_neg (by simp [h1]; omega), ht, if_neg (by rw [hnf, hnl]; omega), if_pos (by rw [hof]; exact (pb_iff _).1 (by assumption)), hof]); rw [hE]; exact RQ_ret (rkvs_cons (rkv_ck rfl rfl rfl) (rkvs_cons (rkv_t rfl) rfl)) hcl (by simp [rks, AV.lt, AV.ltL, ofConst1, ncells]) (Ret_of rfl)
        ·(try rw [h22]); (try simp only [decide_eq_true_eq, decide_eq_false_iff_not, Bool.not_eq_true', Bool.not_eq_false', Int.not_lt, Int.not_le, Bool.not_true, Bool.not_false, Int.toNat_natCast, tn1, tn2, tm1, tnn, bne_iff_ne, beq_iff_eq, beq_eq_false_iff_ne, ne_eq, Decidable.not_not] at h22)
         refine AWp_skip ?_
         refine zu4 ?_
         simp only [Int.toNat_natCast]
         refine zg1 ?_
         refine ztN rfl rfl (op_storeO (r := [.bool ng, .str (d.extract f l), .int .i64 0]) rfl Tryd.sizeOf9 rfl rfl rfl rfl rfl (by decide)) ?_
         refine zon ?_
         refine zu2 ?_
         refine ztN rfl rfl (op_storeO (r := [.bool ng, .str (d.extract f l), .int .i64 (xx - b + ((d.size : Int) - l))]) rfl Tryd.sizeOf3 rfl rfl rfl rfl rfl (by decide)) ?_
         refine zon ?_
         refine zu1 ?_
         refine zt rfl (zc rfl (mayNum_c ⟨ng, d.extract f l, xx - b + ((d.size : Int) - l)⟩ _ (by simp only; omega))) ?_
         refine zv1 ?_
         refine AWp_seq ?_
         refine zw2 ?_
         refine AWp_cond rfl (fun h23 => ?_) (fun h23 => ?_)
         ·(try rw [h23]); (try simp only [decide_eq_true_eq, decide_eq_false_iff_not, Bool.not_eq_true', Bool.not_eq_false', Int.not_lt, Int.not_le, Bool.not_true, Bool.not_false, Int.toNat_natCast, tn1, tn2, tm1, tnn, bne_iff_ne, beq_iff_eq, beq_eq_false_iff_ne, ne_eq, Decidable.not_not] at h23)
          refine zw3 ?_
          refine zrt ?_
          first | (exfalso; omega; done) | (have hE : rNum s = ({}, 0) := by unfold rNum; rw [if_neg (by simp [h1]; omega), ht, if_pos (by rw [hnf, hnl]; omega)]); rw [hE]; exact RQ_ret (rkvs_cons (rkv_ck rfl rfl rfl) (rkvs_cons (rkv_t rfl) rfl)) hcl (by simp [rks, AV.lt, AV.ltL, ofConst1, ncells]) (Ret_of rfl) | (have hE : rNum s = ({}, 5) := by unfold rNum; rw [if_neg (by simp [h1]; omega), ht, if_neg (by rw [hnf, hnl]; omega), if_neg (by rw [hof]; exact (pb_niff _).1 (by assumption))]); rw [hE]; exact RQ_ret (rkvs_cons (rkv_ck rfl rfl rfl) (rkvs_cons (rkv_t rfl) rfl)) hcl (by simp [rks, AV.lt, AV.ltL, ofConst1, ncells]) (Ret_of rfl) | (have hE : rNum s = (⟨ng, d.extract f l, xx - b + ((d.size : Int) - l)⟩, 0) := by unfold rNum; rw [if_neg (by simp [h1]; omega), ht, if_neg (by rw [hnf, hnl]; omega), if_pos (by rw [hof]; exact (pb_iff _).1 (by assumption)), hof]); rw [hE]; exact RQ_ret (rkvs_cons (rkv_ck rfl rfl rfl) (rkvs_cons (rkv_t rfl) rfl)) hcl (by simp [rks, AV.lt, AV.ltL, ofConst1, ncells]) (Ret_of rfl)
         ·(try rw [h23]); (try simp only [decide_eq_true_eq, decide_eq_false_iff_not, Bool.not_eq_true', Bool.not_eq_false', Int.not_lt, Int.not_le, Bool.not_true, Bool.not_false, Int.toNat_natCast, tn1, tn2, tm1, tnn, bne_iff_ne, beq_iff_eq, beq_eq_false_iff_ne, ne_eq, Decidable.not_not] at h23)
          refine AWp_skip ?_
          refine zw3 ?_
          refine zrt ?_
          first | (exfalso; omega; done) | (have hE : rNum s = ({}, 0) := by unfold rNum; rw [if_neg (by simp [h1]; omega), ht, if_pos (by rw [hnf, hnl]; omega)]); rw [hE]; exact RQ_ret (rkvs_cons (rkv_ck rfl rfl rfl) (rkvs_cons (rkv_t rfl) rfl)) hcl (by simp [rks, AV.lt, AV.ltL, ofConst1, ncells]) (Ret_of rfl) | (have hE : rNum s = ({}, 5) := by unfold rNum; rw [if_neg (by simp [h1]; omega), ht, if_neg (by rw [hnf, hnl]; omega), if_neg (by rw [hof]; exact (pb_niff _).1 (by assumption))]); rw [hE]; exact RQ_ret (rkvs_cons (rkv_ck rfl rfl rfl) (rkvs_cons (rkv_t rfl) rfl)) hcl (by simp [rks, AV.lt, AV.ltL, ofConst1, ncells]) (Ret_of rfl) | (have hE : rNum s = (⟨ng, d.extract f l, xx - b + ((d.size : Int) - l)⟩, 0) := by unfold rNum; rw [if_neg (by simp [h1]; omega), ht, if_neg (by rw [hnf, hnl]; omega), if_pos (by rw [hof]; exact (pb_iff _).1 (by assumption)), hof]); rw [hE]; exact RQ_ret (rkvs_cons (rkv_ck rfl rfl rfl) (rkvs_cons (rkv_t rfl) rfl)) hcl (by simp [rks, AV.lt, AV.ltL, ofConst1, ncells]) (Ret_of rfl)
     ·rw [h16]; (try simp only [decide_eq_true_eq, decide_eq_false_iff_not, Bool.not_eq_true', Bool.not_eq_false', Int.not_lt, Int.not_le, Bool.not_true, Bool.not_false, Int.toNat_natCast, tn1, tn2, tm1, tnn, bne_iff_ne, beq_iff_eq, beq_eq_false_iff_ne, ne_eq, Decidable.not_not] at h16)
      refine zv5 ?_
      refine AWp_condF rfl ?_
      refine AWp_exit ?_
      refine zw3 ?_
      refine AWp_seq ?_
      refine AWp_block ?_
      -- loop 3 LIVE 2:alloc 3:assign 6:alloc 7:assign 10:assign 15:assign 16:assign
      have hff : fz d 0 = f := by rw [← hf1]; exact fz_no (by omega)
      refine AWp_loop (ι := Nat) (fun l => lz d f l = lz d f d.size ∧ f ≤ l ∧ l ≤ d.size) (fun l => ⟨[], [(2, .ptr (σ.length + 0) 0), (6, .ptr (σ.length + 1) 0), (7, .str d), (10, .int .i64 (xx - b + ((d.size : Int) - l))), (15, .int .i64 (f : Int)), (16, .int .i64 (l : Int))]⟩) (fun l => σ ++ [_, _]) (fun l => l) (d.size) (⟨rfl, hf2, Nat.le_refl _⟩) ?_ rfl (fun l hl => ?_)
      ·refine ⟨rfl, rfl, rfl, rfl, ?_, rfl, rfl, trivial⟩
       rw [Int.sub_self, Int.add_zero]; rfl
      obtain ⟨hl1, hl2, hl3⟩ := hl
      refine AWp_seq ?_
      refine zu4 ?_
      refine zsp 99 rfl (fun h24 => ?_) fun h24 => ?_
      ·rw [h24]; (try simp only [decide_eq_true_eq, decide_eq_false_iff_not, Bool.not_eq_true', Bool.not_eq_false', Int.not_lt, Int.not_le, Bool.not_true, Bool.not_false, Int.toNat_natCast, tn1, tn2, tm1, tnn, bne_iff_ne, beq_iff_eq, beq_eq_false_iff_ne, ne_eq, Decidable.not_not] at h24)
       refine zv6 ?_
       refine AWp_cond rfl (fun h25 => ?_) (fun h25 => ?_)
       ·(try rw [h25]); (try simp only [decide_eq_true_eq, decide_eq_false_iff_not, Bool.not_eq_true', Bool.not_eq_false', Int.not_lt, Int.not_le, Bool.not_true, Bool.not_false, Int.toNat_natCast, tn1, tn2, tm1, tnn, bne_iff_ne, beq_iff_eq, beq_eq_false_iff_ne, ne_eq, Decidable.not_not] at h25)
        refine AWp_skip ?_
        refine AWp_block ?_
        refine zw3 ?_
        refine AWp_regL ?_
        refine zv3 ?_
        refine ⟨l - 1, σ.length + 2, ⟨by rw [← hl1]; exact (lz_yes (by omega) (by omega)).symm, by omega⟩, by omega, by simp, ⟨rfl, rfl, rfl, rfl, ?_, rfl, ?_, trivial⟩, closed_own 2 hcl (by simp [ownLt, AO.cells, AV.ltL, AV.lt]), by simp [ltE, AV.lt], take_own 2⟩
        ·rw [show xx - b + ((d.size : Int) - ((l - 1 : Nat) : Int)) = xx - b + ((d.size : Int) - (l : Int)) + 1 by omega]; rfl
        ·rw [show ((l - 1 : Nat) : Int) = (l : Int) - 1 by omega]; rfl
       ·(try rw [h25]); (try simp only [decide_eq_true_eq, decide_eq_false_iff_not, Bool.not_eq_true', Bool.not_eq_false', Int.not_lt, Int.not_le, Bool.not_true, Bool.not_false, Int.toNat_natCast, tn1, tn2, tm1, tnn, bne_iff_ne, beq_iff_eq, beq_eq_false_iff_ne, ne_eq, Decidable.not_not] at h25)
        refine AWp_exit ?_
        refine AWp_seq ?_
        refine zsr ?_
        have hll : lz d f d.size = l := by rw [← hl1]; exact lz_no (by omega) hl2
        have hxs : (d.extract f l).size ≤ d.size := by rw [ByteArray.size_extract]; omega
        have hnf : nF ⟨ng, dn, pt, pw, d, b, x⟩ = f := hff
        have hnl : nL ⟨ng, dn, pt, pw, d, b, x⟩ = l := by unfold nL; rw [hnf]; exact hll
        have hof : nOf ⟨ng, dn, pt, pw, d, b, x⟩ = ⟨ng, d.extract f l, xx - b + ((d.size : Int) - l)⟩ := by unfold nOf; rw [hnf, hnl, ← hx1]
        refine zv3 ?_
        refine AWp_cond rfl (fun h26 => ?_) (fun h26 => ?_)
        ·(try rw [h26]); (try simp only [decide_eq_true_eq, decide_eq_false_iff_not, Bool.not_eq_true', Bool.not_eq_false', Int.not_lt, Int.not_le, Bool.not_true, Bool.not_false, Int.toNat_natCast, tn1, tn2, tm1, tnn, bne_iff_ne, beq_iff_eq, beq_eq_false_iff_ne, ne_eq, Decidable.not_not] at h26)
         refine zw3 ?_
         refine zrt ?_
         first | (exfalso; omega; done) | (have hE : rNum s = ({}, 0) := by unfold rNum; rw [if_neg (by simp [h1]; omega), ht, if_pos (by rw [hnf, hnl]; omega)]); rw [hE]; exact RQ_ret (rkvs_cons (rkv_ck rfl rfl rfl) (rkvs_cons (rkv_t rfl) rfl)) hcl (by simp [rks, AV.lt, AV.ltL, ofConst1, ncells]) (Ret_of rfl) | (have hE : rNum s = ({}, 5) := by unfold rNum; rw [if_neg (by simp [h1]; omega), ht, if_neg (by rw [hnf, hnl]; omega), if_neg (by rw [hof]; exact (pb_niff _).1 (by assumption))]); rw [hE]; exact RQ_ret (rkvs_cons (rkv_ck rfl rfl rfl) (rkvs_cons (rkv_t rfl) rfl)) hcl (by simp [rks, AV.lt, AV.ltL, ofConst1, ncells]) (Ret_of rfl) | (have hE : rNum s = (⟨ng, d.extract f l, xx - b + ((d.size : Int) - l)⟩, 0) := by unfold rNum; rw [if_neg (by simp [h1]; omega), ht, if_neg (by rw [hnf, hnl]; omega), if_pos (by rw [hof]; exact (pb_iff _).1 (by assumption)), hof]); rw [hE]; exact RQ_ret (rkvs_cons (rkv_ck rfl rfl rfl) (rkvs_cons (rkv_t rfl) rfl)) hcl (by simp [rks, AV.lt, AV.ltL, ofConst1, ncells]) (Ret_of rfl)
        ·(try rw [h26]); (try simp only [decide_eq_true_eq, decide_eq_false_iff_not, Bool.not_eq_true', Bool.not_eq_false', Int.not_lt, Int.not_le, Bool.not_true, Bool.not_false, Int.toNat_natCast, tn1, tn2, tm1, tnn, bne_iff_ne, beq_iff_eq, beq_eq_false_iff_ne, ne_eq, Decidable.not_not] at h26)
         refine AWp_skip ?_
         refine zu4 ?_
         simp only [Int.toNat_natCast]
         refine zg1 ?_
         refine ztN rfl rfl (op_storeO (r := [.bool ng, .str (d.extract f l), .int .i64 0]) rfl Tryd.sizeOf9 rfl rfl rfl rfl rfl (by decide)) ?_
         refine zon ?_
         refine zu2 ?_
         refine ztN rfl rfl (op_storeO (r := [.bool ng, .str (d.extract f l), .int .i64 (xx - b + ((d.size : Int) - l))]) rfl Tryd.sizeOf3 rfl rfl rfl rfl rfl (by decide)) ?_
         refine zon ?_
         refine zu1 ?_
         refine zt rfl (zc rfl (mayNum_c ⟨ng, d.extract f l, xx - b + ((d.size : Int) - l)⟩ _ (by simp only; omega))) ?_
         refine zv1 ?_
         refine AWp_seq ?_
         refine zw2 ?_
         refine AWp_cond rfl (fun h27 => ?_) (fun h27 => ?_)
         ·(try rw [h27]); (try simp only [decide_eq_true_eq, decide_eq_false_iff_not, Bool.not_eq_true', Bool.not_eq_false', Int.not_lt, Int.not_le, Bool.not_true, Bool.not_false, Int.toNat_natCast, tn1, tn2, tm1, tnn, bne_iff_ne, beq_iff_eq, beq_eq_false_iff_ne, ne_eq, Decidable.not_not] at h27)
          refine zw3 ?_
          refine zrt ?_
          first | (exfalso; omega; done) | (have hE : rNum s = ({}, 0) := by unfold rNum; rw [if_neg (by simp [h1]; omega), ht, if_pos (by rw [hnf, hnl]; omega)]); rw [hE]; exact RQ_ret (rkvs_cons (rkv_ck rfl rfl rfl) (rkvs_cons (rkv_t rfl) rfl)) hcl (by simp [rks, AV.lt, AV.ltL, ofConst1, ncells]) (Ret_of rfl) | (have hE : rNum s = ({}, 5) := by unfold rNum; rw [if_neg (by simp [h1]; omega), ht, if_neg (by rw [hnf, hnl]; omega), if_neg (by rw [hof]; exact (pb_niff _).1 (by assumption))]); rw [hE]; exact RQ_ret (rkvs_cons (rkv_ck rfl rfl rfl) (rkvs_cons (rkv_t rfl) rfl)) hcl (by simp [rks, AV.lt, AV.ltL, ofConst1, ncells]) (Ret_of rfl) | (have hE : rNum s = (⟨ng, d.extract f l, xx - b + ((d.size : Int) - l)⟩, 0) := by unfold rNum; rw [if_neg (by simp [h1]; omega), ht, if_neg (by rw [hnf, hnl]; omega), if_pos (by rw [hof]; exact (pb_iff _).1 (by assumption)), hof]); rw [hE]; exact RQ_ret (rkvs_cons (rkv_ck rfl rfl rfl) (rkvs_cons (rkv_t rfl) rfl)) hcl (by simp [rks, AV.lt, AV.ltL, ofConst1, ncells]) (Ret_of rfl)
         ·(try rw [h27]); (try simp only [decide_eq_true_eq, decide_eq_false_iff_not, Bool.not_eq_true', Bool.not_eq_false', Int.not_lt, Int.not_le, Bool.not_true, Bool.not_false, Int.toNat_natCast, tn1, tn2, tm1, tnn, bne_iff_ne, beq_iff_eq, beq_eq_false_iff_ne, ne_eq, Decidable.not_not] at h27)
          refine AWp_skip ?_
          refine zw3 ?_
          refine zrt ?_
          first | (exfalso; omega; done) | (have hE : rNum s = ({}, 0) := by unfold rNum; rw [if_neg (by simp [h1]; omega), ht, if_pos (by rw [hnf, hnl]; omega)]); rw [hE]; exact RQ_ret (rkvs_cons (rkv_ck rfl rfl rfl) (rkvs_cons (rkv_t rfl) rfl)) hcl (by simp [rks, AV.lt, AV.ltL, ofConst1, ncells]) (Ret_of rfl) | (have hE : rNum s = ({}, 5) := by unfold rNum; rw [if_neg (by simp [h1]; omega), ht, if_neg (by rw [hnf, hnl]; omega), if_neg (by rw [hof]; exact (pb_niff _).1 (by assumption))]); rw [hE]; exact RQ_ret (rkvs_cons (rkv_ck rfl rfl rfl) (rkvs_cons (rkv_t rfl) rfl)) hcl (by simp [rks, AV.lt, AV.ltL, ofConst1, ncells]) (Ret_of rfl) | (have hE : rNum s = (⟨ng, d.extract f l, xx - b + ((d.size : Int) - l)⟩, 0) := by unfold rNum; rw [if_neg (by simp [h1]; omega), ht, if_neg (by rw [hnf, hnl]; omega), if_pos (by rw [hof]; exact (pb_iff _).1 (by assumption)), hof]); rw [hE]; exact RQ_ret (rkvs_cons (rkv_ck rfl rfl rfl) (rkvs_cons (rkv_t rfl) rfl)) hcl (by simp [rks, AV.lt, AV.ltL, ofConst1, ncells]) (Ret_of rfl)
      ·rw [h24]; (try simp only [decide_eq_true_eq, decide_eq_false_iff_not, Bool.not_eq_true', Bool.not_eq_false', Int.not_lt, Int.not_le, Bool.not_true, Bool.not_false, Int.toNat_natCast, tn1, tn2, tm1, tnn, bne_iff_ne, beq_iff_eq, beq_eq_false_iff_ne, ne_eq, Decidable.not_not] at h24)
       refine zv6 ?_
       refine AWp_condF rfl ?_
       refine AWp_exit ?_
       refine AWp_seq ?_
       refine zsr ?_
       have hll : lz d f d.size = l := by rw [← hl1]; exact lz_no (by omega) hl2
       have hxs : (d.extract f l).size ≤ d.size := by rw [ByteArray.size_extract]; omega
       have hnf : nF ⟨ng, dn, pt, pw, d, b, x⟩ = f := hff
       have hnl : nL ⟨ng, dn, pt, pw, d, b, x⟩ = l := by unfold nL; rw [hnf]; exact hll
       have hof : nOf ⟨ng, dn, pt, pw, d, b, x⟩ = ⟨ng, d.extract f l, xx - b + ((d.size : Int) - l)⟩ := by unfold nOf; rw [hnf, hnl, ← hx1]
       refine zv3 ?_
       refine AWp_cond rfl (fun h28 => ?_) (fun h28 => ?_)
       ·(try rw [h28]); (try simp only [decide_eq_true_eq, decide_eq_false_iff_not, Bool.not_eq_true', Bool.not_eq_false', Int.not_lt, Int.not_le, Bool.not_true, Bool.not_false, Int.toNat_natCast, tn1, tn2, tm1, tnn, bne_iff_ne, beq_iff_eq, beq_eq_false_iff_ne, ne_eq, Decidable.not_not] at h28)
        refine zw3 ?_
        refine zrt ?_
        first | (exfalso; omega; done) | (have hE : rNum s = ({}, 0) := by unfold rNum; rw [if_neg (by simp [h1]; omega), ht, if_pos (by rw [hnf, hnl]; omega)]); rw [hE]; exact RQ_ret (rkvs_cons (rkv_ck rfl rfl rfl) (rkvs_cons (rkv_t rfl) rfl)) hcl (by simp [rks, AV.lt, AV.ltL, ofConst1, ncells]) (Ret_of rfl) | (have hE : rNum s = ({}, 5) := by unfold rNum; rw [if_neg (by simp [h1]; omega), ht, if_neg (by rw [hnf, hnl]; omega), if_neg (by rw [hof]; exact (pb_niff _).1 (by assumption))]); rw [hE]; exact RQ_ret (rkvs_cons (rkv_ck rfl rfl rfl) (rkvs_cons (rkv_t rfl) rfl)) hcl (by simp [rks, AV.lt, AV.ltL, ofConst1, ncells]) (Ret_of rfl) | (have hE : rNum s = (⟨ng, d.extract f l, xx - b + ((d.size : Int) - l)⟩, 0) := by unfold rNum; rw [if_neg (by simp [h1]; omega), ht, if_neg (by rw [hnf, hnl]; omega), if_pos (by rw [hof]; exact (pb_iff _).1 (by assumption)), hof]); rw [hE]; exact RQ_ret (rkvs_cons (rkv_ck rfl rfl rfl) (rkvs_cons (rkv_t rfl) rfl)) hcl (by simp [rks, AV.lt, AV.ltL, ofConst1, ncells]) (Ret_of rfl)
       ·(try rw [h28]); (try simp only [decide_eq_true_eq, decide_eq_false_iff_not, Bool.not_eq_true', Bool.not_eq_false', Int.not_lt, Int.not_le, Bool.not_true, Bool.not_false, Int.toNat_natCast, tn1, tn2, tm1, tnn, bne_iff_ne, beq_iff_eq, beq_eq_false_iff_ne, ne_eq, Decidable.not_not] at h28)
        refine AWp_skip ?_
        refine zu4 ?_
        simp only [Int.toNat_natCast]
        refine zg1 ?_
        refine ztN rfl rfl (op_storeO (r := [.bool ng, .str (d.extract f l), .int .i64 0]) rfl Tryd.sizeOf9 rfl rfl rfl rfl rfl (by decide)) ?_
        refine zon ?_
        refine zu2 ?_
        refine ztN rfl rfl (op_storeO (r := [.bool ng, .str (d.extract f l), .int .i64 (xx - b + ((d.size : Int) - l))]) rfl Tryd.sizeOf3 rfl rfl rfl rfl rfl (by decide)) ?_
        refine zon ?_
        refine zu1 ?_
        refine zt rfl (zc rfl (mayNum_c ⟨ng, d.extract f l, xx - b + ((d.size : Int) - l)⟩ _ (by simp only; omega))) ?_
        refine zv1 ?_
        refine AWp_seq ?_
        refine zw2 ?_
        refine AWp_cond rfl (fun h29 => ?_) (fun h29 => ?_)
        ·(try rw [h29]); (try simp only [decide_eq_true_eq, decide_eq_false_iff_not, Bool.not_eq_true', Bool.not_eq_false', Int.not_lt, Int.not_le, Bool.not_true, Bool.not_false, Int.toNat_natCast, tn1, tn2, tm1, tnn, bne_iff_ne, beq_iff_eq, beq_eq_false_iff_ne, ne_eq, Decidable.not_not] at h29)
         refine zw3 ?_
         refine zrt ?_
         first | (exfalso; omega; done) | (have hE : rNum s = ({}, 0) := by unfold rNum; rw [if_neg (by simp [h1]; omega), ht, if_pos (by rw [hnf, hnl]; omega)]); rw [hE]; exact RQ_ret (rkvs_cons (rkv_ck rfl rfl rfl) (rkvs_cons (rkv_t rfl) rfl)) hcl (by simp [rks, AV.lt, AV.ltL, ofConst1, ncells]) (Ret_of rfl) | (have hE : rNum s = ({}, 5) := by unfold rNum; rw [if_neg (by simp [h1]; omega), ht, if_neg (by rw [hnf, hnl]; omega), if_neg (by rw [hof]; exact (pb_niff _).1 (by assumption))]); rw [hE]; exact RQ_ret (rkvs_cons (rkv_ck rfl rfl rfl) (rkvs_cons (rkv_t rfl) rfl)) hcl (by simp [rks, AV.lt, AV.ltL, ofConst1, ncells]) (Ret_of rfl) | (have hE : rNum s = (⟨ng, d.extract f l, xx - b + ((d.size : Int) - l)⟩, 0) := by unfold rNum; rw [if_neg (by simp [h1]; omega), ht, if_neg (by rw [hnf, hnl]; omega), if_pos (by rw [hof]; exact (pb_iff _).1 (by assumption)), hof]); rw [hE]; exact RQ_ret (rkvs_cons (rkv_ck rfl rfl rfl) (rkvs_cons (rkv_t rfl) rfl)) hcl (by simp [rks, AV.lt, AV.ltL, ofConst1, ncells]) (Ret_of rfl)
        ·(try rw [h29]); (try simp only [decide_eq_true_eq, decide_eq_false_iff_not, Bool.not_eq_true', Bool.not_eq_false', Int.not_lt, Int.not_le, Bool.not_true, Bool.not_false, Int.toNat_natCast, tn1, tn2, tm1, tnn, bne_iff_ne, beq_iff_eq, beq_eq_false_iff_ne, ne_eq, Decidable.not_not] at h29)
         refine AWp_skip ?_
         refine zw3 ?_
         refine zrt ?_
         first | (exfalso; omega; done) | (have hE : rNum s = ({}, 0) := by unfold rNum; rw [if_neg (by simp [h1]; omega), ht, if_pos (by rw [hnf, hnl]; omega)]); rw [hE]; exact RQ_ret (rkvs_cons (rkv_ck rfl rfl rfl) (rkvs_cons (rkv_t rfl) rfl)) hcl (by simp [rks, AV.lt, AV.ltL, ofConst1, ncells]) (Ret_of rfl) | (have hE : rNum s = ({}, 5) := by unfold rNum; rw [if_neg (by simp [h1]; omega), ht, if_neg (by rw [hnf, hnl]; omega), if_neg (by rw [hof]; exact (pb_niff _).1 (by assumption))]); rw [hE]; exact RQ_ret (rkvs_cons (rkv_ck rfl rfl rfl) (rkvs_cons (rkv_t rfl) rfl)) hcl (by simp [rks, AV.lt, AV.ltL, ofConst1, ncells]) (Ret_of rfl) | (have hE : rNum s = (⟨ng, d.extract f l, xx - b + ((d.size : Int) - l)⟩, 0) := by unfold rNum; rw [if_neg (by simp [h1]; omega), ht, if_neg (by rw [hnf, hnl]; omega), if_pos (by rw [hof]; exact (pb_iff _).1 (by assumption)), hof]); rw [hE]; exact RQ_ret (rkvs_cons (rkv_ck rfl rfl rfl) (rkvs_cons (rkv_t rfl) rfl)) hcl (by simp [rks, AV.lt, AV.ltL, ofConst1, ncells]) (Ret_of rfl)
end Lg
set_option maxRecDepth 20000
set_option maxHeartbeats 4000000
namespace Lg
open Go Go.Proofs Go.RowKit
variable [GLay] 
theorem value_r (s : ByteArray) (hs : s.size ≤ 100000) : ∀ (n : Nat) (r : RS) (p : Nat) (σ : List AO), σ[p]? = some (rbox s r) → ROK s r → s.size + 1 < n + r.a → ACalls Tryd.prog 24 [.ptr p 0] σ (Ret (.agg (vcells (rval n s r).1)) (σ.set p (rbox s (rval n s r).2))) := by
 intro n
 induction n with
 | zero => intro r p σ hσ h hn; exfalso; have := h.a; omega
 | succ n ih =>
 intro r p σ hσ h hn
 have hp : p < σ.length := (List.getElem?_eq_some_iff.1 hσ).1
 have hb1 := rblank_to h
 have hta := hb1.a
 refine ACalls_bodyC Tryd.func24 rfl Tryd.ntmps24 (by rw [Tryd.results24]; exact (.ck Tryd.isAgg28 Tryd.sizeOf28 .nil)) (Nat.le_of_ble_eq_true rfl) (fun hcl hal => ?_)
 refine AWp_heap (set_same hσ) ?_
 refine zw1 ?_
 refine zw1 ?_
 refine zu1 ?_
 refine zt rfl (zc rfl (callSA hp (blank_r s r p _ (get_setA hp) hs h))) ?_
 refine zon ?_
 refine AWp_seq ?_
 have hres : rval (n + 1) s r = ((rone (rval n s) s (rblank s r)).1, rblank s (rone (rval n s) s (rblank s r)).2) := rfl
 generalize rblank s r = t at hb1 hta hres ⊢
 have htk := hb1.ok.a
 have htb := hb1.ok.b
 have hn2 : s.size + 1 < n + t.a + 1 := by omega
 refine AWp_regL ?_
 refine zg1 ?_
 refine zt rfl (zc rfl (peek_r s t p _ (get_setA hp))) ?_
 refine zv1 ?_
 refine AWp_join (ι := AV × AV × List AO) (fun z => AVle z.1 (.sl false 8 (lcells (rone (rval n s) s t).1.l)) ∧ AVle z.2.1 (.sl false 9 (mcells (rone (rval n s) s t).1.m))) (fun z => ⟨[], [(0, .ptr p 0), (2, .ptr (σ.length + 0) 0), (3, .ptr (σ.length + 1) 0)]⟩) (fun z => σ.set p (rbox s (rone (rval n s) s t).2) ++ ([.box [.int .i64 0, .bool false, .bool false, .str e0, .int .i64 0, .str e0, .nils, .nils], .box [.int .i64 (rone (rval n s) s t).1.kind, .bool (rone (rval n s) s t).1.b, .bool (rone (rval n s) s t).1.n.neg, .str (rone (rval n s) s t).1.n.digits, .int .i64 (rone (rval n s) s t).1.n.exp, .str (rone (rval n s) s t).1.s, z.1, z.2.1]] ++ z.2.2)) ?_ (fun z hj => ?_)
 ·skip
  refine zw2 ?_
  refine AWp_cond rfl (fun h1 => ?_) (fun h1 => ?_)
  ·(try rw [h1]); (try simp only [decide_eq_true_eq, decide_eq_false_iff_not, Bool.not_eq_true', Bool.not_eq_false', Int.not_lt, Int.not_le, Bool.not_true, Bool.not_false, Int.toNat_natCast, tn1, tn2, tnn, bne_iff_ne, beq_iff_eq, beq_eq_false_iff_ne, ne_eq, Decidable.not_not] at h1)
   have hpk := pk_yes (s := s) (a := t.a) (bad := t.bad) (by omega)
   refine AWp_regL ?_
   refine zg1 ?_
   refine zt rfl (zc rfl (callSA hp (object_r s n ih t p _ (get_setA hp) hs hb1.ok hpk.1 hpk.2.1 hn2))) ?_
   rw [vcells_eq (robj (rval n s) s t).1]
   refine zv1 ?_
   have hone : rone (rval n s) s t = robj (rval n s) s t := by unfold rone; rw [if_pos (by omega)]
   simp only [hone]
   exact ⟨(.sl false 8 (lcells (robj (rval n s) s t).1.l), .sl false 9 (mcells (robj (rval n s) s t).1.m), _), ⟨AVle.refl _, AVle.refl _⟩, ⟨rfl, rfl, rfl, rfl, trivial⟩, rfl⟩
  ·(try rw [h1]); (try simp only [decide_eq_true_eq, decide_eq_false_iff_not, Bool.not_eq_true', Bool.not_eq_false', Int.not_lt, Int.not_le, Bool.not_true, Bool.not_false, Int.toNat_natCast, tn1, tn2, tnn, bne_iff_ne, beq_iff_eq, beq_eq_false_iff_ne, ne_eq, Decidable.not_not] at h1)
   refine zw2 ?_
   refine AWp_cond rfl (fun h2 => ?_) (fun h2 => ?_)
   ·(try rw [h2]); (try simp only [decide_eq_true_eq, decide_eq_false_iff_not, Bool.not_eq_true', Bool.not_eq_false', Int.not_lt, Int.not_le, Bool.not_true, Bool.not_false, Int.toNat_natCast, tn1, tn2, tnn, bne_iff_ne, beq_iff_eq, beq_eq_false_iff_ne, ne_eq, Decidable.not_not] at h2)
    have hpk := pk_yes (s := s) (a := t.a) (bad := t.bad) (by omega)
    refine AWp_regL ?_
    refine zg1 ?_
    refine zt rfl (zc rfl (callSA hp (array_r s n ih t p _ (get_setA hp) hs hb1.ok hpk.1 hpk.2.1 hn2))) ?_
    rw [vcells_eq (rarr (rval n s) s t).1]
    refine zv1 ?_
    have hone : rone (rval n s) s t = rarr (rval n s) s t := by unfold rone; rw [if_neg (by omega), if_pos (by omega)]
    simp only [hone]
    exact ⟨(.sl false 8 (lcells (rarr (rval n s) s t).1.l), .sl false 9 (mcells (rarr (rval n s) s t).1.m), _), ⟨AVle.refl _, AVle.refl _⟩, ⟨rfl, rfl, rfl, rfl, trivial⟩, rfl⟩
   ·(try rw [h2]); (try simp only [decide_eq_true_eq, decide_eq_false_iff_not, Bool.not_eq_true', Bool.not_eq_false', Int.not_lt, Int.not_le, Bool.not_true, Bool.not_false, Int.toNat_natCast, tn1, tn2, tnn, bne_iff_ne, beq_iff_eq, beq_eq_false_iff_ne, ne_eq, Decidable.not_not] at h2)
    refine zw2 ?_
    refine AWp_cond rfl (fun h3 => ?_) (fun h3 => ?_)
    ·(try rw [h3]); (try simp only [decide_eq_true_eq, decide_eq_false_iff_not, Bool.not_eq_true', Bool.not_eq_false', Int.not_lt, Int.not_le, Bool.not_true, Bool.not_false, Int.toNat_natCast, tn1, tn2, tnn, bne_iff_ne, beq_iff_eq, beq_eq_false_iff_ne, ne_eq, Decidable.not_not] at h3)
     refine AWp_regL ?_
     refine zg1 ?_
     refine zt rfl (zc rfl (callSA hp (text_r s t p _ (get_setA hp) hs hb1.ok))) ?_
     refine zv2 ?_
     have hone : rone (rval n s) s t = (.mk 3 false {} (rtext s t).1 [] [], (rtext s t).2) := by unfold rone; rw [if_neg (by omega), if_neg (by omega), if_pos (by omega)]
     simp only [hone]
     exact ⟨(.nils, .nils, _), ⟨nilL, nilM⟩, ⟨rfl, rfl, rfl, rfl, trivial⟩, rfl⟩
    ·(try rw [h3]); (try simp only [decide_eq_true_eq, decide_eq_false_iff_not, Bool.not_eq_true', Bool.not_eq_false', Int.not_lt, Int.not_le, Bool.not_true, Bool.not_false, Int.toNat_natCast, tn1, tn2, tnn, bne_iff_ne, beq_iff_eq, beq_eq_false_iff_ne, ne_eq, Decidable.not_not] at h3)
     refine zw2 ?_
     refine AWp_cond rfl (fun h4 => ?_) (fun h4 => ?_)
     ·(try rw [h4]); (try simp only [decide_eq_true_eq, decide_eq_false_iff_not, Bool.not_eq_true', Bool.not_eq_false', Int.not_lt, Int.not_le, Bool.not_true, Bool.not_false, Int.toNat_natCast, tn1, tn2, tnn, bne_iff_ne, beq_iff_eq, beq_eq_false_iff_ne, ne_eq, Decidable.not_not] at h4)
      refine AWp_regL ?_
      refine zg1 ?_
      refine zt rfl (zc rfl (callSA hp (want_c lNull s t p _ (get_setA hp) hs (by decide) hb1.ok))) ?_
      refine zon ?_
      have hone : rone (rval n s) s t = (vz, rwant s lNull t) := by unfold rone; rw [if_neg (by omega), if_neg (by omega), if_neg (by omega), if_pos (by omega)]
      simp only [hone]
      exact ⟨(.nils, .nils, _), ⟨nilL, nilM⟩, ⟨rfl, rfl, rfl, rfl, trivial⟩, rfl⟩
     ·(try rw [h4]); (try simp only [decide_eq_true_eq, decide_eq_false_iff_not, Bool.not_eq_true', Bool.not_eq_false', Int.not_lt, Int.not_le, Bool.not_true, Bool.not_false, Int.toNat_natCast, tn1, tn2, tnn, bne_iff_ne, beq_iff_eq, beq_eq_false_iff_ne, ne_eq, Decidable.not_not] at h4)
      refine zw2 ?_
      refine AWp_cond rfl (fun h5 => ?_) (fun h5 => ?_)
      ·(try rw [h5]); (try simp only [decide_eq_true_eq, decide_eq_false_iff_not, Bool.not_eq_true', Bool.not_eq_false', Int.not_lt, Int.not_le, Bool.not_true, Bool.not_false, Int.toNat_natCast, tn1, tn2, tnn, bne_iff_ne, beq_iff_eq, beq_eq_false_iff_ne, ne_eq, Decidable.not_not] at h5)
       refine zu1 ?_
       refine zt rfl (zc rfl (callSA hp (want_c lTrue s t p _ (get_setA hp) hs (by decide) hb1.ok))) ?_
       refine zon ?_
       refine AWp_regL ?_
       refine zv2 ?_
       have hone : rone (rval n s) s t = (.mk 1 true {} e0 [] [], rwant s lTrue t) := by unfold rone; rw [if_neg (by omega), if_neg (by omega), if_neg (by omega), if_neg (by omega), if_pos (by omega)]
       simp only [hone]
       exact ⟨(.nils, .nils, _), ⟨nilL, nilM⟩, ⟨rfl, rfl, rfl, rfl, trivial⟩, rfl⟩
      ·(try rw [h5]); (try simp only [decide_eq_true_eq, decide_eq_false_iff_not, Bool.not_eq_true', Bool.not_eq_false', Int.not_lt, Int.not_le, Bool.not_true, Bool.not_false, Int.toNat_natCast, tn1, tn2, tnn, bne_iff_ne, beq_iff_eq, beq_eq_false_iff_ne, ne_eq, Decidable.not_not] at h5)
       refine zw2 ?_
       refine AWp_cond rfl (fun h6 => ?_) (fun h6 => ?_)
       ·(try rw [h6]); (try simp only [decide_eq_true_eq, decide_eq_false_iff_not, Bool.not_eq_true', Bool.not_eq_false', Int.not_lt, Int.not_le, Bool.not_true, Bool.not_false, Int.toNat_natCast, tn1, tn2, tnn, bne_iff_ne, beq_iff_eq, beq_eq_false_iff_ne, ne_eq, Decidable.not_not] at h6)
        refine zu1 ?_
        refine zt rfl (zc rfl (callSA hp (want_c lFalse s t p _ (get_setA hp) hs (by decide) hb1.ok))) ?_
        refine zon ?_
        refine AWp_regL ?_
        refine zv2 ?_
        have hone : rone (rval n s) s t = (.mk 1 false {} e0 [] [], rwant s lFalse t) := by unfold rone; rw [if_neg (by omega), if_neg (by omega), if_neg (by omega), if_neg (by omega), if_neg (by omega), if_pos (by omega)]
        simp only [hone]
        exact ⟨(.nils, .nils, _), ⟨nilL, nilM⟩, ⟨rfl, rfl, rfl, rfl, trivial⟩, rfl⟩
       ·(try rw [h6]); (try simp only [decide_eq_true_eq, decide_eq_false_iff_not, Bool.not_eq_true', Bool.not_eq_false', Int.not_lt, Int.not_le, Bool.not_true, Bool.not_false, Int.toNat_natCast, tn1, tn2, tnn, bne_iff_ne, beq_iff_eq, beq_eq_false_iff_ne, ne_eq, Decidable.not_not] at h6)
        refine zu3 ?_
        refine zsp 42 rfl (fun h7 => ?_) fun h7 => ?_
        ·rw [h7]; (try simp only [decide_eq_true_eq, decide_eq_false_iff_not, Bool.not_eq_true', Bool.not_eq_false', Int.not_lt, Int.not_le, Bool.not_true, Bool.not_false, Int.toNat_natCast, tn1, tn2, tnn, bne_iff_ne, beq_iff_eq, beq_eq_false_iff_ne, ne_eq, Decidable.not_not] at h7)
         refine zv7 ?_
         refine AWp_condT rfl ?_
         refine AWp_seq ?_
         have hpk := pk_yes (s := s) (a := t.a) (bad := t.bad) (by omega)
         have hel := rEnd_le (s := s) (a := t.a) (by omega)
         refine AWp_drawL #[0, 1, 3, 7, 0, 16, 48, 112, 255, 511, 1023, 1023, 2047, 8191] Tryd.mixed (by decide +kernel) (by decide +kernel) ?_
         refine zd3 ?_
         refine zp1 ?_
         refine zd3 ?_
         refine zp1 ?_
         refine yP rfl rfl (zc rfl (end_c s t.a _ (by omega) (by omega))) (trivial) ?_
         refine zd5 ?_
         refine RP.nil rfl ?_
         refine AWp_join (ι := RS) (fun y => y = (if (rEnd s t.a).2 = true then t else rfail t (rEnd s t.a).1 1) ∧ y.a = t.a ∧ y.deep = t.deep) (fun y => ⟨[], [(0, .ptr p 0), (2, .ptr (σ.length + 0) 0), (3, .ptr (σ.length + 1) 0), (5, .int .i64 ((rEnd s t.a).1 : Int))]⟩) (fun y => σ.set p (rbox s y) ++ [.box [.int .i64 0, .bool false, .bool false, .str e0, .int .i64 0, .str e0, .nils, .nils], .box [.int .i64 0, .bool false, .bool false, .str e0, .int .i64 0, .str e0, .nils, .nils]]) ?_ (fun y hj => ?_)
         ·skip
          refine zw2 ?_
          refine AWp_cond rfl (fun h8 => ?_) (fun h8 => ?_)
          ·(try rw [h8]); (try simp only [decide_eq_true_eq, decide_eq_false_iff_not, Bool.not_eq_true', Bool.not_eq_false', Int.not_lt, Int.not_le, Bool.not_true, Bool.not_false, Int.toNat_natCast, tn1, tn2, tnn, bne_iff_ne, beq_iff_eq, beq_eq_false_iff_ne, ne_eq, Decidable.not_not] at h8)
           refine AWp_regL ?_
           refine zg2 ?_
           refine zt rfl (zc rfl (callSA hp (fail_r s t p _ (get_setA hp) ((rEnd s t.a).1 : Int) 1))) ?_
           refine zon ?_
           first | exact ⟨rfail t (rEnd s t.a).1 1, ⟨by rw [if_neg (by simp [*])], rfl, rfl⟩, ⟨rfl, rfl, rfl, rfl, rfl, trivial⟩, rfl⟩ | exact ⟨t, ⟨by rw [if_pos (by simp [*])], rfl, rfl⟩, ⟨rfl, rfl, rfl, rfl, rfl, trivial⟩, rfl⟩
          ·(try rw [h8]); (try simp only [decide_eq_true_eq, decide_eq_false_iff_not, Bool.not_eq_true', Bool.not_eq_false', Int.not_lt, Int.not_le, Bool.not_true, Bool.not_false, Int.toNat_natCast, tn1, tn2, tnn, bne_iff_ne, beq_iff_eq, beq_eq_false_iff_ne, ne_eq, Decidable.not_not] at h8)
           refine AWp_skip ?_
           first | exact ⟨rfail t (rEnd s t.a).1 1, ⟨by rw [if_neg (by simp [*])], rfl, rfl⟩, ⟨rfl, rfl, rfl, rfl, rfl, trivial⟩, rfl⟩ | exact ⟨t, ⟨by rw [if_pos (by simp [*])], rfl, rfl⟩, ⟨rfl, rfl, rfl, rfl, rfl, trivial⟩, rfl⟩
         ·skip
          obtain ⟨hy1, hy2, hy3⟩ := hj
          refine AWp_seq ?_
          refine AWp_drawL #[0, 1, 3, 7, 0, 16, 48, 112, 0, 511, 1023, 2047, 4095, 4095, 0, 24575, 65535] Tryd.mixed (by decide +kernel) (by decide +kernel) ?_
          refine zd3 ?_
          refine zp1 ?_
          refine zd3 ?_
          refine zp1 ?_
          refine zd2 ?_
          simp only [Int.toNat_natCast, hy2]
          refine yP rfl rfl (zc rfl (rnum_c (s.extract t.a (rEnd s t.a).1) _ (by rw [ByteArray.size_extract]; omega))) (trivial) ?_
          refine zd3 ?_
          refine yE rfl rfl (zoa) (⟨.inr (op_callF rfl rfl rfl Tryd.func42 rfl rfl (rnum_c (s.extract t.a (rEnd s t.a).1) _ (by rw [ByteArray.size_extract]; omega))), ⟨.inr (op_load1 rfl Tryd.isAgg3 (ldv_setA hp (by rw [← hy2]; rfl))), ⟨.inr (op_load1 rfl Tryd.isAgg9 (ldv_setA hp rfl)), trivial⟩⟩⟩) (trivial) ?_
          refine yEN rfl rfl rfl (zoa) (⟨.inl rfl, ⟨.inl rfl, ⟨.inl rfl, trivial⟩⟩⟩) (⟨rfl, trivial⟩) ?_
          refine zd1 ?_
          refine RP.nil rfl ?_
          refine AWp_join (ι := RS) (fun x => x = (if (rNum (s.extract t.a (rEnd s t.a).1)).2 = 0 then (if (rEnd s t.a).2 = true then t else rfail t (rEnd s t.a).1 1) else rfail (if (rEnd s t.a).2 = true then t else rfail t (rEnd s t.a).1 1) t.a 5) ∧ x.a = t.a ∧ x.deep = t.deep) (fun x => ⟨[], [(0, .ptr p 0), (2, .ptr (σ.length + 0) 0), (3, .ptr (σ.length + 1) 0), (5, .int .i64 ((rEnd s t.a).1 : Int)), (7, .ptr (σ.length + 2) 0)]⟩) (fun x => σ.set p (rbox s x) ++ [.box [.int .i64 0, .bool false, .bool false, .str e0, .int .i64 0, .str e0, .nils, .nils], .box [.int .i64 0, .bool false, .bool false, .str e0, .int .i64 0, .str e0, .nils, .nils], .box (ncells (rNum (s.extract t.a (rEnd s t.a).1)).1)]) ?_ (fun x hj => ?_)
          ·skip
           refine zw2 ?_
           refine AWp_cond rfl (fun h9 => ?_) (fun h9 => ?_)
           ·(try rw [h9]); (try simp only [decide_eq_true_eq, decide_eq_false_iff_not, Bool.not_eq_true', Bool.not_eq_false', Int.not_lt, Int.not_le, Bool.not_true, Bool.not_false, Int.toNat_natCast, tn1, tn2, tnn, bne_iff_ne, beq_iff_eq, beq_eq_false_iff_ne, ne_eq, Decidable.not_not] at h9)
            refine AWp_regL ?_
            refine zg5 ?_
            refine zt rfl (zc rfl (callSA hp (fail_r s y p _ (get_setA hp) (y.a : Int) 5))) ?_
            refine zon ?_
            first | exact ⟨rfail y y.a 5, ⟨by rw [if_neg (by assumption), ← hy1, hy2], hy2, hy3⟩, ⟨rfl, rfl, rfl, rfl, rfl, rfl, trivial⟩, rfl⟩ | exact ⟨y, ⟨by rw [if_pos (by assumption), ← hy1], hy2, hy3⟩, ⟨rfl, rfl, rfl, rfl, rfl, rfl, trivial⟩, rfl⟩
           ·(try rw [h9]); (try simp only [decide_eq_true_eq, decide_eq_false_iff_not, Bool.not_eq_true', Bool.not_eq_false', Int.not_lt, Int.not_le, Bool.not_true, Bool.not_false, Int.toNat_natCast, tn1, tn2, tnn, bne_iff_ne, beq_iff_eq, beq_eq_false_iff_ne, ne_eq, Decidable.not_not] at h9)
            refine AWp_skip ?_
            first | exact ⟨rfail y y.a 5, ⟨by rw [if_neg (by assumption), ← hy1, hy2], hy2, hy3⟩, ⟨rfl, rfl, rfl, rfl, rfl, rfl, trivial⟩, rfl⟩ | exact ⟨y, ⟨by rw [if_pos (by assumption), ← hy1], hy2, hy3⟩, ⟨rfl, rfl, rfl, rfl, rfl, rfl, trivial⟩, rfl⟩
          ·skip
           obtain ⟨hx1, hx2, hx3⟩ := hj
           refine zw5 ?_
           refine AWp_regL ?_
           refine zv3 ?_
           have hone : rone (rval n s) s t = rnumv s t := by unfold rone; rw [if_neg (by omega), if_neg (by omega), if_neg (by omega), if_neg (by omega), if_neg (by omega), if_neg (by omega), if_pos (by omega)]
           have hnum : rnumv s t = (.mk 2 false (rNum (s.extract t.a (rEnd s t.a).1)).1 e0 [] [], ⟨(rEnd s t.a).1, x.deep, x.bad, x.spot⟩) := by rw [hx3]; unfold rnumv; rw [← hx1]
           simp only [hone, hnum]
           exact ⟨(.nils, .nils, _), ⟨nilL, nilM⟩, ⟨rfl, rfl, rfl, rfl, trivial⟩, rfl⟩
        ·rw [h7]; (try simp only [decide_eq_true_eq, decide_eq_false_iff_not, Bool.not_eq_true', Bool.not_eq_false', Int.not_lt, Int.not_le, Bool.not_true, Bool.not_false, Int.toNat_natCast, tn1, tn2, tnn, bne_iff_ne, beq_iff_eq, beq_eq_false_iff_ne, ne_eq, Decidable.not_not] at h7)
         refine zg3 ?_
         refine zsp 45 rfl (fun h10 => ?_) fun h10 => ?_
         ·rw [h10]; (try simp only [decide_eq_true_eq, decide_eq_false_iff_not, Bool.not_eq_true', Bool.not_eq_false', Int.not_lt, Int.not_le, Bool.not_true, Bool.not_false, Int.toNat_natCast, tn1, tn2, tnn, bne_iff_ne, beq_iff_eq, beq_eq_false_iff_ne, ne_eq, Decidable.not_not] at h10)
          refine zv4 ?_
          refine AWp_cond rfl (fun h11 => ?_) (fun h11 => ?_)
          ·(try rw [h11]); (try simp only [decide_eq_true_eq, decide_eq_false_iff_not, Bool.not_eq_true', Bool.not_eq_false', Int.not_lt, Int.not_le, Bool.not_true, Bool.not_false, Int.toNat_natCast, tn1, tn2, tnn, bne_iff_ne, beq_iff_eq, beq_eq_false_iff_ne, ne_eq, Decidable.not_not] at h11)
           refine AWp_seq ?_
           have hpk := pk_yes (s := s) (a := t.a) (bad := t.bad) (by omega)
           have hel := rEnd_le (s := s) (a := t.a) (by omega)
           refine AWp_drawL #[0, 1, 3, 7, 0, 16, 48, 112, 255, 511, 1023, 1023, 2047, 8191] Tryd.mixed (by decide +kernel) (by decide +kernel) ?_
           refine zd3 ?_
           refine zp1 ?_
           refine zd3 ?_
           refine zp1 ?_
           refine yP rfl rfl (zc rfl (end_c s t.a _ (by omega) (by omega))) (trivial) ?_
           refine zd5 ?_
           refine RP.nil rfl ?_
           refine AWp_join (ι := RS) (fun y => y = (if (rEnd s t.a).2 = true then t else rfail t (rEnd s t.a).1 1) ∧ y.a = t.a ∧ y.deep = t.deep) (fun y => ⟨[], [(0, .ptr p 0), (2, .ptr (σ.length + 0) 0), (3, .ptr (σ.length + 1) 0), (5, .int .i64 ((rEnd s t.a).1 : Int))]⟩) (fun y => σ.set p (rbox s y) ++ [.box [.int .i64 0, .bool false, .bool false, .str e0, .int .i64 0, .str e0, .nils, .nils], .box [.int .i64 0, .bool false, .bool false, .str e0, .int .i64 0, .str e0, .nils, .nils]]) ?_ (fun y hj => ?_)
           ·skip
            refine zw2 ?_
            refine AWp_cond rfl (fun h12 => ?_) (fun h12 => ?_)
            ·(try rw [h12]); (try simp only [decide_eq_true_eq, decide_eq_false_iff_not, Bool.not_eq_true', Bool.not_eq_false', Int.not_lt, Int.not_le, Bool.not_true, Bool.not_false, Int.toNat_natCast, tn1, tn2, tnn, bne_iff_ne, beq_iff_eq, beq_eq_false_iff_ne, ne_eq, Decidable.not_not] at h12)
             refine AWp_regL ?_
             refine zg2 ?_
             refine zt rfl (zc rfl (callSA hp (fail_r s t p _ (get_setA hp) ((rEnd s t.a).1 : Int) 1))) ?_
             refine zon ?_
             first | exact ⟨rfail t (rEnd s t.a).1 1, ⟨by rw [if_neg (by simp [*])], rfl, rfl⟩, ⟨rfl, rfl, rfl, rfl, rfl, trivial⟩, rfl⟩ | exact ⟨t, ⟨by rw [if_pos (by simp [*])], rfl, rfl⟩, ⟨rfl, rfl, rfl, rfl, rfl, trivial⟩, rfl⟩
            ·(try rw [h12]); (try simp only [decide_eq_true_eq, decide_eq_false_iff_not, Bool.not_eq_true', Bool.not_eq_false', Int.not_lt, Int.not_le, Bool.not_true, Bool.not_false, Int.toNat_natCast, tn1, tn2, tnn, bne_iff_ne, beq_iff_eq, beq_eq_false_iff_ne, ne_eq, Decidable.not_not] at h12)
             refine AWp_skip ?_
             first | exact ⟨rfail t (rEnd s t.a).1 1, ⟨by rw [if_neg (by simp [*])], rfl, rfl⟩, ⟨rfl, rfl, rfl, rfl, rfl, trivial⟩, rfl⟩ | exact ⟨t, ⟨by rw [if_pos (by simp [*])], rfl, rfl⟩, ⟨rfl, rfl, rfl, rfl, rfl, trivial⟩, rfl⟩
           ·skip
            obtain ⟨hy1, hy2, hy3⟩ := hj
            refine AWp_seq ?_
            refine AWp_drawL #[0, 1, 3, 7, 0, 16, 48, 112, 0, 511, 1023, 2047, 4095, 4095, 0, 24575, 65535] Tryd.mixed (by decide +kernel) (by decide +kernel) ?_
            refine zd3 ?_
            refine zp1 ?_
            refine zd3 ?_
            refine zp1 ?_
            refine zd2 ?_
            simp only [Int.toNat_natCast, hy2]
            refine yP rfl rfl (zc rfl (rnum_c (s.extract t.a (rEnd s t.a).1) _ (by rw [ByteArray.size_extract]; omega))) (trivial) ?_
            refine zd3 ?_
            refine yE rfl rfl (zoa) (⟨.inr (op_callF rfl rfl rfl Tryd.func42 rfl rfl (rnum_c (s.extract t.a (rEnd s t.a).1) _ (by rw [ByteArray.size_extract]; omega))), ⟨.inr (op_load1 rfl Tryd.isAgg3 (ldv_setA hp (by rw [← hy2]; rfl))), ⟨.inr (op_load1 rfl Tryd.isAgg9 (ldv_setA hp rfl)), trivial⟩⟩⟩) (trivial) ?_
            refine yEN rfl rfl rfl (zoa) (⟨.inl rfl, ⟨.inl rfl, ⟨.inl rfl, trivial⟩⟩⟩) (⟨rfl, trivial⟩) ?_
            refine zd1 ?_
            refine RP.nil rfl ?_
            refine AWp_join (ι := RS) (fun x => x = (if (rNum (s.extract t.a (rEnd s t.a).1)).2 = 0 then (if (rEnd s t.a).2 = true then t else rfail t (rEnd s t.a).1 1) else rfail (if (rEnd s t.a).2 = true then t else rfail t (rEnd s t.a).1 1) t.a 5) ∧ x.a = t.a ∧ x.deep = t.deep) (fun x => ⟨[], [(0, .ptr p 0), (2, .ptr (σ.length + 0) 0), (3, .ptr (σ.length + 1) 0), (5, .int .i64 ((rEnd s t.a).1 : Int)), (7, .ptr (σ.length + 2) 0)]⟩) (fun x => σ.set p (rbox s x) ++ [.box [.int .i64 0, .bool false, .bool false, .str e0, .int .i64 0, .str e0, .nils, .nils], .box [.int .i64 0, .bool false, .bool false, .str e0, .int .i64 0, .str e0, .nils, .nils], .box (ncells (rNum (s.extract t.a (rEnd s t.a).1)).1)]) ?_ (fun x hj => ?_)
            ·skip
             refine zw2 ?_
             refine AWp_cond rfl (fun h13 => ?_) (fun h13 => ?_)
             ·(try rw [h13]); (try simp only [decide_eq_true_eq, decide_eq_false_iff_not, Bool.not_eq_true', Bool.not_eq_false', Int.not_lt, Int.not_le, Bool.not_true, Bool.not_false, Int.toNat_natCast, tn1, tn2, tnn, bne_iff_ne, beq_iff_eq, beq_eq_false_iff_ne, ne_eq, Decidable.not_not] at h13)
              refine AWp_regL ?_
              refine zg5 ?_
              refine zt rfl (zc rfl (callSA hp (fail_r s y p _ (get_setA hp) (y.a : Int) 5))) ?_
              refine zon ?_
              first | exact ⟨rfail y y.a 5, ⟨by rw [if_neg (by assumption), ← hy1, hy2], hy2, hy3⟩, ⟨rfl, rfl, rfl, rfl, rfl, rfl, trivial⟩, rfl⟩ | exact ⟨y, ⟨by rw [if_pos (by assumption), ← hy1], hy2, hy3⟩, ⟨rfl, rfl, rfl, rfl, rfl, rfl, trivial⟩, rfl⟩
             ·(try rw [h13]); (try simp only [decide_eq_true_eq, decide_eq_false_iff_not, Bool.not_eq_true', Bool.not_eq_false', Int.not_lt, Int.not_le, Bool.not_true, Bool.not_false, Int.toNat_natCast, tn1, tn2, tnn, bne_iff_ne, beq_iff_eq, beq_eq_false_iff_ne, ne_eq, Decidable.not_not] at h13)
              refine AWp_skip ?_
              first | exact ⟨rfail y y.a 5, ⟨by rw [if_neg (by assumption), ← hy1, hy2], hy2, hy3⟩, ⟨rfl, rfl, rfl, rfl, rfl, rfl, trivial⟩, rfl⟩ | exact ⟨y, ⟨by rw [if_pos (by assumption), ← hy1], hy2, hy3⟩, ⟨rfl, rfl, rfl, rfl, rfl, rfl, trivial⟩, rfl⟩
            ·skip
             obtain ⟨hx1, hx2, hx3⟩ := hj
             refine zw5 ?_
             refine AWp_regL ?_
             refine zv3 ?_
             have hone : rone (rval n s) s t = rnumv s t := by unfold rone; rw [if_neg (by omega), if_neg (by omega), if_neg (by omega), if_neg (by omega), if_neg (by omega), if_neg (by omega), if_pos (by omega)]
             have hnum : rnumv s t = (.mk 2 false (rNum (s.extract t.a (rEnd s t.a).1)).1 e0 [] [], ⟨(rEnd s t.a).1, x.deep, x.bad, x.spot⟩) := by rw [hx3]; unfold rnumv; rw [← hx1]
             simp only [hone, hnum]
             exact ⟨(.nils, .nils, _), ⟨nilL, nilM⟩, ⟨rfl, rfl, rfl, rfl, trivial⟩, rfl⟩
          ·(try rw [h11]); (try simp only [decide_eq_true_eq, decide_eq_false_iff_not, Bool.not_eq_true', Bool.not_eq_false', Int.not_lt, Int.not_le, Bool.not_true, Bool.not_false, Int.toNat_natCast, tn1, tn2, tnn, bne_iff_ne, beq_iff_eq, beq_eq_false_iff_ne, ne_eq, Decidable.not_not] at h11)
           refine AWp_regL ?_
           refine zg5 ?_
           refine zt rfl (zc rfl (callSA hp (fail_r s t p _ (get_setA hp) (t.a : Int) 1))) ?_
           refine zon ?_
           have hone : rone (rval n s) s t = (vz, rfail t t.a 1) := by unfold rone; rw [if_neg (by omega), if_neg (by omega), if_neg (by omega), if_neg (by omega), if_neg (by omega), if_neg (by omega), if_neg (by omega)]
           simp only [hone]
           exact ⟨(.nils, .nils, _), ⟨nilL, nilM⟩, ⟨rfl, rfl, rfl, rfl, trivial⟩, rfl⟩
         ·rw [h10]; (try simp only [decide_eq_true_eq, decide_eq_false_iff_not, Bool.not_eq_true', Bool.not_eq_false', Int.not_lt, Int.not_le, Bool.not_true, Bool.not_false, Int.toNat_natCast, tn1, tn2, tnn, bne_iff_ne, beq_iff_eq, beq_eq_false_iff_ne, ne_eq, Decidable.not_not] at h10)
          refine zv4 ?_
          refine AWp_condF rfl ?_
          refine AWp_regL ?_
          refine zg5 ?_
          refine zt rfl (zc rfl (callSA hp (fail_r s t p _ (get_setA hp) (t.a : Int) 1))) ?_
          refine zon ?_
          have hone : rone (rval n s) s t = (vz, rfail t t.a 1) := by unfold rone; rw [if_neg (by omega), if_neg (by omega), if_neg (by omega), if_neg (by omega), if_neg (by omega), if_neg (by omega), if_neg (by omega)]
          simp only [hone]
          exact ⟨(.nils, .nils, _), ⟨nilL, nilM⟩, ⟨rfl, rfl, rfl, rfl, trivial⟩, rfl⟩
 ·skip
  obtain ⟨L, M, w⟩ := z
  obtain ⟨hL, hM⟩ := hj
  simp only at hL hM ⊢
  refine AWp_seq ?_
  have hok := rone_ok hs (fun r h => rval_ok hs n r h) hb1.ok
  refine AWp_boxLeS 1 (bs' := [.int .i64 (rone (rval n s) s t).1.kind, .bool (rone (rval n s) s t).1.b, .bool (rone (rval n s) s t).1.n.neg, .str (rone (rval n s) s t).1.n.digits, .int .i64 (rone (rval n s) s t).1.n.exp, .str (rone (rval n s) s t).1.s, .sl false 8 (lcells (rone (rval n s) s t).1.l), .sl false 9 (mcells (rone (rval n s) s t).1.m)]) rfl ⟨AVle.refl _, AVle.refl _, AVle.refl _, AVle.refl _, AVle.refl _, AVle.refl _, hL, hM, trivial⟩ ?_
  refine AWp_regL ?_
  refine zg1 ?_
  refine zt rfl (zc rfl (callSA hp (blank_r s (rone (rval n s) s t).2 p _ (get_setA hp) hs hok.fwd.ok))) ?_
  refine zon ?_
  refine zw2 ?_
  refine zrt ?_
  rw [hres, vcells_eq]
  exact RQ_retS (rkvs_cons (rkv_ckS rfl rfl rfl) rfl) (x := rbox s (rblank s (rone (rval n s) s t).2)) hcl (by simp [AO.cells, AV.ltL, AV.lt]) (by simp [rks, AV.lt, AV.ltL]) ⟨rfl, rfl⟩
end Lg
set_option maxRecDepth 20000
set_option maxHeartbeats 4000000
namespace Lg
open Go Go.Proofs Go.RowKit
variable [GLay] 
theorem rpar_c (s : ByteArray) (hs : s.size ≤ 100000) (p : Nat) (σ : List AO) (hσ : σ[p]? = some (rbox s ⟨0, 0, 0, 0⟩)) : ACalls Tryd.prog 24 [.ptr p 0] σ (Ret (.agg (vcells (rpar s).1)) (σ.set p (rbox s (rpar s).2))) := value_r s hs (s.size + 2) ⟨0, 0, 0, 0⟩ p σ hσ ⟨Nat.zero_le _, fun _ => Nat.zero_le _, Int.le_refl _, Int.le_refl _⟩ (by dsimp only; omega)
theorem parse_c (s : ByteArray) (σ : List AO) (hs : s.size ≤ 100000) : ACalls Tryd.prog 13 [.str s] σ (Ret (.tup [.agg (vcells (rParse s).1), .int .i64 (rParse s).2.1, .int .i64 (rParse s).2.2]) σ) := by
 refine ACalls_bodyC Tryd.func13 rfl Tryd.ntmps13 (by rw [Tryd.results13]; exact (.ck Tryd.isAgg28 Tryd.sizeOf28 (.t (.t .nil)))) (Nat.le_of_ble_eq_true rfl) (fun hcl hal => ?_)
 refine zw3 ?_
 refine AWp_seq ?_
 refine zw3 ?_
 refine AWp_cond rfl (fun h1 => ?_) (fun h1 => ?_)
 ·(try rw [h1]); replace h1 := zcl h1
  refine zw4 ?_
  refine AWp_boxLeO 0 (bs' := [.int .i64 vz.kind, .bool vz.b, .bool vz.n.neg, .str vz.n.digits, .int .i64 vz.n.exp, .str vz.s, .sl false 8 (lcells vz.l), .sl false 9 (mcells vz.m)]) rfl ⟨AVle.refl _, AVle.refl _, AVle.refl _, AVle.refl _, AVle.refl _, AVle.refl _, nilL, nilM, trivial⟩ ?_
  refine zrt ?_
  have hE : rParse s = (vz, 5, 20000) := by unfold rParse; rw [if_pos (by omega)]
  rw [hE, vcells_eq]; exact RQ_ret (rkvs_cons (rkv_ck rfl rfl rfl) (rkvs_cons (rkv_t rfl) (rkvs_cons (rkv_t rfl) rfl))) hcl (by simp [rks, AV.lt, AV.ltL, ofConst1, ncells]) ⟨rfl, rfl⟩
 ·(try rw [h1]); replace h1 := zcl h1
  refine AWp_skip ?_
  refine zw4 ?_
  refine zu1 ?_
  refine zt rfl (zc rfl (callO 1 (rpar_c s hs (σ.length + 1) _ (by rw [get_ownT rfl]; rfl)))) ?_
  rw [vcells_eq (rpar s).1]
  refine zv2 ?_
  refine AWp_join (ι := Unit) (fun b => True) (fun b => ⟨[], [(0, .str s), (2, .ptr (σ.length + 0) 0), (5, .ptr (σ.length + 1) 0), (6, .ptr (σ.length + 2) 0)]⟩) (fun b => σ ++ [.box [.int .i64 0, .bool false, .bool false, .str e0, .int .i64 0, .str e0, .nils, .nils], rbox s (rparE s), .box [.int .i64 (rpar s).1.kind, .bool (rpar s).1.b, .bool (rpar s).1.n.neg, .str (rpar s).1.n.digits, .int .i64 (rpar s).1.n.exp, .str (rpar s).1.s, .sl false 8 (lcells (rpar s).1.l), .sl false 9 (mcells (rpar s).1.m)]]) ?_ (fun b hj => ?_)
  ·skip
   refine zu6 ?_
   refine zsp 21 rfl (fun h2 => ?_) fun h2 => ?_
   ·rw [h2]; replace h2 := zcl h2
    refine zv8 ?_
    refine AWp_cond rfl (fun h3 => ?_) (fun h3 => ?_)
    ·(try rw [h3]); replace h3 := zcl h3
     refine AWp_regL ?_
     refine zg5 ?_
     refine zt rfl (zc rfl (callO 1 (fail_r s (rpar s).2 (σ.length + 1) _ (by rw [get_ownT rfl]; rfl) ((rpar s).2.a : Int) 1))) ?_
     refine zon ?_
     refine ⟨(), trivial, ⟨rfl, rfl, rfl, rfl, rfl, trivial⟩, ?_⟩
     unfold rparE; first | (rw [if_pos ⟨by omega, by omega⟩]; rfl) | (rw [if_neg (by omega)]; rfl)
    ·(try rw [h3]); replace h3 := zcl h3
     refine AWp_skip ?_
     refine ⟨(), trivial, ⟨rfl, rfl, rfl, rfl, rfl, trivial⟩, ?_⟩
     unfold rparE; first | (rw [if_pos ⟨by omega, by omega⟩]; rfl) | (rw [if_neg (by omega)]; rfl)
   ·rw [h2]; replace h2 := zcl h2
    refine zv8 ?_
    refine AWp_condF rfl ?_
    refine AWp_skip ?_
    refine ⟨(), trivial, ⟨rfl, rfl, rfl, rfl, rfl, trivial⟩, ?_⟩
    unfold rparE; first | (rw [if_pos ⟨by omega, by omega⟩]; rfl) | (rw [if_neg (by omega)]; rfl)
  ·skip
   refine AWp_seq ?_
   refine zw5 ?_
   refine AWp_cond rfl (fun h4 => ?_) (fun h4 => ?_)
   ·(try rw [h4]); replace h4 := zcl h4
    refine AWp_seq ?_
    refine AWp_drawL #[0, 0, 2, 6, 14, 0, 32, 96, 224, 1, 543, 2047] Tryd.mixed (by decide +kernel) (by decide +kernel) ?_
    refine zd4 ?_
    refine zp1 ?_
    refine zd3 ?_
    refine zp1 ?_
    refine yEN rfl rfl rfl (zoa) (⟨.inr (op_load1 rfl Tryd.isAgg3 (ldv_own rfl rfl)), ⟨.inr (op_load1 rfl Tryd.isAgg3 (ldv_own rfl rfl)), trivial⟩⟩) (trivial) ?_
    refine zd2 ?_
    refine RP.nil rfl ?_
    refine AWp_boxLeO 0 (bs' := [.int .i64 vz.kind, .bool vz.b, .bool vz.n.neg, .str vz.n.digits, .int .i64 vz.n.exp, .str vz.s, .sl false 8 (lcells vz.l), .sl false 9 (mcells vz.m)]) rfl ⟨AVle.refl _, AVle.refl _, AVle.refl _, AVle.refl _, AVle.refl _, AVle.refl _, nilL, nilM, trivial⟩ ?_
    refine zrt ?_
    have hE : rParse s = (vz, (rparE s).bad, (rparE s).spot) := by unfold rParse; rw [if_neg (by omega), if_neg (by assumption)]
    rw [hE, vcells_eq]; exact RQ_ret (rkvs_cons (rkv_ck rfl rfl rfl) (rkvs_cons (rkv_t rfl) (rkvs_cons (rkv_t rfl) rfl))) hcl (by simp [rks, AV.lt, AV.ltL, ofConst1, ncells]) ⟨rfl, rfl⟩
   ·(try rw [h4]); replace h4 := zcl h4
    refine AWp_skip ?_
    refine zw4 ?_
    refine zrt ?_
    have hE : rParse s = ((rpar s).1, 0, 0) := by unfold rParse; rw [if_neg (by omega), if_pos (by assumption)]
    rw [hE, vcells_eq]; exact RQ_ret (rkvs_cons (rkv_ck rfl rfl rfl) (rkvs_cons (rkv_t rfl) (rkvs_cons (rkv_t rfl) rfl))) hcl (by simp [rks, AV.lt, AV.ltL, ofConst1, ncells]) ⟨rfl, rfl⟩

theorem value_c (s : ByteArray) (σ : List AO) : ACalls Tryd.prog 6 [.str s] σ (Ret (.tup [.agg (vcells (rValue s).1), .int .i64 (rValue s).2]) σ) := by
 refine ACalls_bodyC Tryd.func6 rfl Tryd.ntmps6 (by rw [Tryd.results6]; exact (.ck Tryd.isAgg28 Tryd.sizeOf28 (.t .nil))) (Nat.le_of_ble_eq_true rfl) (fun hcl hal => ?_)
 refine zw2 ?_
 refine AWp_seq ?_
 refine zw3 ?_
 refine AWp_cond rfl (fun h1 => ?_) (fun h1 => ?_)
 ·(try rw [h1]); replace h1 := zcl h1
  refine zw3 ?_
  refine AWp_boxLeO 0 (bs' := [.int .i64 vz.kind, .bool vz.b, .bool vz.n.neg, .str vz.n.digits, .int .i64 vz.n.exp, .str vz.s, .sl false 8 (lcells vz.l), .sl false 9 (mcells vz.m)]) rfl ⟨AVle.refl _, AVle.refl _, AVle.refl _, AVle.refl _, AVle.refl _, AVle.refl _, nilL, nilM, trivial⟩ ?_
  refine zrt ?_
  have hE : rValue s = (vz, 0) := by unfold rValue; rw [if_pos (by omega)]
  rw [hE, vcells_eq]; exact RQ_ret (rkvs_cons (rkv_ck rfl rfl rfl) (rkvs_cons (rkv_t rfl) rfl)) hcl (by simp [rks, AV.lt, AV.ltL, ofConst1, ncells]) ⟨rfl, rfl⟩
 ·(try rw [h1]); replace h1 := zcl h1
  refine AWp_skip ?_
  refine zu1 ?_
  refine zt rfl (zc rfl (parse_c s _ (by omega))) ?_
  rw [vcells_eq (rParse s).1]
  refine zv8 ?_
  refine AWp_seq ?_
  refine zw2 ?_
  refine AWp_cond rfl (fun h2 => ?_) (fun h2 => ?_)
  ·(try rw [h2]); replace h2 := zcl h2
   refine zw3 ?_
   refine AWp_boxLeO 0 (bs' := [.int .i64 vz.kind, .bool vz.b, .bool vz.n.neg, .str vz.n.digits, .int .i64 vz.n.exp, .str vz.s, .sl false 8 (lcells vz.l), .sl false 9 (mcells vz.m)]) rfl ⟨AVle.refl _, AVle.refl _, AVle.refl _, AVle.refl _, AVle.refl _, AVle.refl _, nilL, nilM, trivial⟩ ?_
   refine zrt ?_
   have hE : rValue s = (vz, 0) := by unfold rValue; rw [if_neg (by omega), if_neg (by assumption)]
   rw [hE, vcells_eq]; exact RQ_ret (rkvs_cons (rkv_ck rfl rfl rfl) (rkvs_cons (rkv_t rfl) rfl)) hcl (by simp [rks, AV.lt, AV.ltL, ofConst1, ncells]) ⟨rfl, rfl⟩
  ·(try rw [h2]); replace h2 := zcl h2
   refine AWp_skip ?_
   refine zw3 ?_
   refine zrt ?_
   have hE : rValue s = ((rParse s).1, 1) := by unfold rValue; rw [if_neg (by omega), if_pos (by assumption)]
   rw [hE, vcells_eq]; exact RQ_ret (rkvs_cons (rkv_ck rfl rfl rfl) (rkvs_cons (rkv_t rfl) rfl)) hcl (by simp [rks, AV.lt, AV.ltL, ofConst1, ncells]) ⟨rfl, rfl⟩
end Lg
namespace Lg
open Go
def ex12 : ByteArray := ⟨#[123, 34, 36, 114, 101, 102, 34, 58, 34, 35, 34, 125]⟩
theorem ex12_0 : (rParse ex12).2.1 = 0 := by rw [rParse_C (by decide)]; decide +kernel
theorem ex12_a : jsize (rParse ex12).1 = 2 ∧ (rParse ex12).1.kind = 5 ∧ (rParse ex12).1.m.map (fun q => q.1) = [cREF] ∧ (rParse ex12).1.m.map (fun q => q.2.kind) = [3] ∧ (rParse ex12).1.m.map (fun q => q.2.s) = [hsh] := by rw [rParse_C (by decide)]; decide +kernel
theorem rk_ref : rk cREF = 11 := by decide +kernel
theorem plc_ref : plc cREF = true := by decide +kernel
theorem hsh_e0 : hsh = hsh ++ e0 := by decide +kernel
def one12 : JNode := ⟨e0, true, false, []⟩
section
variable [GLay]
theorem jlink_one : jlink [one12] = ([one12], 0, e0) := by
  have h : lkn [one12] [one12] [] = ([one12], 0, e0) := rfl
  refine jlink_y h ?_
  have hn : ¬ Rch [one12] 0 0 := by
    intro hR
    have := Rch.closed (fun _ => False) (fun n hn b hb => by
      simp at hn; subst hn; simp [one12, outs] at hb) (fun _ _ h => h.elim) hR
    exact this
  rw [lkc_n (pb_f hn)]; rfl
theorem one12_NOK : NOK [one12] := by
  refine ⟨?_, by simp, by simp, ?_, ?_⟩
  · intro n hn; rw [List.mem_singleton.1 hn]; intro k hk; cases hk
  · intro n hn; rw [List.mem_singleton.1 hn]; decide
  · intro n hn; rw [List.mem_singleton.1 hn]; exact ⟨by decide, fun k hk => by cases hk⟩
theorem ex12_c : ∃ b x, jcomp (rParse ex12).1 = ([⟨e0, false, b, [⟨cREF, x, []⟩]⟩], 0, e0) ∧ x.s = hsh := by
  obtain ⟨h1, h2, h3, h4, h5⟩ := ex12_a
  generalize (rParse ex12).1 = v at h1 h2 h3 h4 h5 ⊢
  obtain ⟨q, hq⟩ : ∃ q, v.m = [q] := List.length_eq_one_iff.1 (by have := congrArg List.length h3; simpa using this)
  obtain ⟨a, x⟩ := q
  rw [hq] at h3 h4 h5
  simp only [List.map_cons, List.map_nil, List.cons.injEq, and_true] at h3 h4 h5
  subst h3
  have hs : schB v = true := by unfold schB; rw [h2]; decide
  have hsh : rShape cREF x = 0 := by unfold rShape; rw [rk_ref, if_neg (by decide), if_pos (by simp [kOK, h4])]
  have hk : kidsM cREF x = [] := by unfold kidsM; rw [rk_ref]; simp
  have hm : rmems (rnd 1) e0 v.m [] (m1 ⟨[], 0, e0⟩ e0 v) = (false, [⟨cREF, x, []⟩], m1 ⟨[], 0, e0⟩ e0 v) := by
    rw [hq, rmems_k (m' := m1 ⟨[], 0, e0⟩ e0 v) (kd := []) rfl hsh (by rw [hk, rkids])]; rfl
  have hn : rnode v = ⟨[⟨e0, decide (v.kind = 1), v.b, [⟨cREF, x, []⟩]⟩], 0, e0⟩ := by
    unfold rnode
    rw [h1, show (2 : Int).toNat = 1 + 1 from rfl, rnd_f rfl (by decide) hm]
    rfl
  refine ⟨v.b, x, ?_, h5⟩
  rw [jcomp_y hs (by rw [hn]), hn, h2]; rfl
theorem jlink_ex {b : Bool} {x : JV} (hx : x.s = hsh) : jlink [⟨e0, false, b, [⟨cREF, x, []⟩]⟩] = ([], 13, e0) := by
  have ht : tgtI x.s [⟨e0, false, b, [⟨cREF, x, []⟩]⟩] = 0 := by
    unfold tgtI; rw [hx, tgt, if_pos hsh_e0]; rfl
  have h1 : lk1 [⟨e0, false, b, [⟨cREF, x, []⟩]⟩] ⟨cREF, x, []⟩ = some ⟨cREF, x, [⟨e0, 0⟩]⟩ := by
    rw [lk1_ref rfl (by rw [ht]; decide), ht]
  have h2 : lkn [⟨e0, false, b, [⟨cREF, x, []⟩]⟩] [⟨e0, false, b, [⟨cREF, x, []⟩]⟩] [] = ([⟨e0, false, b, [⟨cREF, x, [⟨e0, 0⟩]⟩]⟩], 0, e0) := by
    rw [lkn_go (ks := [⟨cREF, x, [⟨e0, 0⟩]⟩]) (by rw [lkk_go h1]; rfl)]; rfl
  refine jlink_c h2 (lkc_y (pb_t ?_))
  refine .one (n := ⟨e0, false, b, [⟨cREF, x, [⟨e0, 0⟩]⟩]⟩) rfl ?_
  simp [outs, outK, plc_ref, outD]
theorem jlink_0 (l : List JNode) : (jlink l).2.1 = 0 → (jlink l).2.2 = e0 := by
  unfold jlink
  split
  · intro h; rename_i h0; exact absurd h h0
  · split
    · intro h; rename_i h0; exact absurd h h0
    · intro _; rfl
theorem jlink_ok {l : List JNode} (hok : NOK l) : (jlink l).1.length ≤ 1000000 ∧ ∀ n ∈ (jlink l).1, KZ n := by
  unfold jlink
  split
  · exact ⟨by simp, fun n hn => by cases hn⟩
  · rename_i h
    split
    · exact ⟨by simp, fun n hn => by cases hn⟩
    · have h0 : (lkn l l []).2.1 = 0 := Decidable.not_not.1 h
      have e : lkn l l [] = ((lkn l l []).1, 0, (lkn l l []).2.2) := by
        rw [← h0]
      have g := (lkn_LOK hok e).1
      exact ⟨by have := g.le; show (lkn l l []).1.length ≤ 1000000; omega, g.kz⟩
end
end Lg
set_option maxRecDepth 20000
set_option maxHeartbeats 4000000
namespace Lg
open Go Go.Proofs Go.RowKit
variable [GLay] [ML]
theorem upL_c (σ : List AO) : ACalls Tryd.prog 8 [.sl true 4 [[.str e0, .bool true, .bool false, .nils]]] σ (Ret (.tup [.sl false 4 (noder [one12]), .nili]) σ) := by
  have h := plink_c true [one12] _ σ rfl one12_NOK
  rw [jlink_one] at h
  exact ACalls.conv (args' := [.sl true 4 (noder [one12])]) ⟨AVle.sl ⟨AVle.refl _, AVle.refl _, AVle.refl _, AVle.nils false 10, trivial⟩ rfl (noder_el _), trivial⟩ h
theorem up12_c (σ : List AO) : ACalls Tryd.prog 5 [] σ (Ret (.bool true) σ) := by
 refine ACalls_body Tryd.func5 rfl Tryd.ntmps5 (res1 Tryd.results5) (Nat.le_of_ble_eq_true rfl) (fun hcl hal => ?_)
 obtain ⟨b, x, hcx, hxs⟩ := ex12_c
 have hpo := rParse_ok ex12 ex12_0
 have e12 : ex12.size = 12 := rfl
 have hok := jcomp_ok hpo.2.1 (may_st hpo.1) (by have := hpo.2.2.1; omega) (by rw [hcx])
 rw [hcx] at hok
 refine zw1 ?_
 refine zsr ?_
 refine zt rfl (zc rfl (parse_c ex12 _ (by decide))) ?_
 rw [vcells_eq (rParse ex12).1]
 refine zv8 ?_
 refine zu1 ?_
 refine zt rfl (zc rfl (rcomp_c (rParse ex12).1 _ _ (vcells_eq _) hpo.2.1 (by have := hpo.2.2.1; omega))) ?_
 rw [hcx]
 refine zv7 ?_
 refine zu1 ?_
 refine zt rfl (zc rfl (plink_c false _ _ _ rfl hok)) ?_
 rw [jlink_ex hxs]
 refine zv5 ?_
 refine zu1 ?_
 refine zt rfl (zc rfl (spell_c (13, e0) _ (fun h => absurd h (by decide)))) ?_
 refine zv5 ?_
 refine zu1 ?_
 refine zt rfl (op_buildSlice [[_, _, _, _]] rfl Tryd.underlying31 Tryd.sizeOf45 Tryd.zeroValue45 rfl (by decide) (by decide) rfl rfl rfl rfl rfl) ?_
 refine zt rfl (zc rfl (upL_c _)) ?_
 refine zv5 ?_
 refine zu3 ?_
 refine zsp 42 rfl (fun h1 => ?_) fun h1 => ?_
 ·rw [h1]; replace h1 := zcl h1
  refine zg4 ?_
  refine zsp 46 rfl (fun h2 => ?_) fun h2 => ?_
  ·rw [h2]; replace h2 := zcl h2
   refine zg4 ?_
   refine zsp 50 rfl (fun h3 => ?_) fun h3 => ?_
   ·rw [h3]; replace h3 := zcl h3
    refine zv5 ?_
    refine zrt ?_
    exact ResQ_1 rfl hcl trivial (Ret_of rfl)
   ·rw [h3]; replace h3 := zcl h3
    first | exact absurd rfl h3 | exact absurd True.intro h3 | cases h3
  ·rw [h2]; replace h2 := zcl h2
   first | exact absurd rfl h2 | exact absurd True.intro h2 | cases h2
 ·rw [h1]; replace h1 := zcl h1
  first | exact absurd rfl h1 | exact absurd True.intro h1 | cases h1
end Lg
set_option maxRecDepth 20000
set_option maxHeartbeats 4000000
namespace Lg
open Go Go.Proofs Go.RowKit
variable [GLay] [ML]
theorem refsTells_c (s : ByteArray) (σ : List AO) : ACalls Tryd.prog 3 [.str s] σ (Ret (.bool true) σ) := by
 refine ACalls_body Tryd.func3 rfl Tryd.ntmps3 (res1 Tryd.results3) (Nat.le_of_ble_eq_true rfl) (fun hcl hal => ?_)
 have hva := rValue_ok s
 refine zw1 ?_
 refine zsr ?_
 refine zt rfl (zc rfl (up12_c _)) ?_
 refine zv1 ?_
 refine zu1 ?_
 refine zt rfl (zc rfl (value_c s _)) ?_
 generalize (rValue s).1 = v at hva ⊢
 generalize (rValue s).2 = ok at hva ⊢
 rw [vcells_eq v]
 refine zv6 ?_
 refine AWp_seq ?_
 refine zw2 ?_
 refine AWp_cond rfl (fun h1 => ?_) (fun h1 => ?_)
 ·(try rw [h1]); replace h1 := zcl h1
  refine zw2 ?_
  refine zrt ?_
  exact ResQ_1 rfl hcl trivial (Ret_of rfl)
 ·(try rw [h1]); replace h1 := zcl h1
  obtain ⟨hmy, hjb, hjs⟩ : jmay v ∧ jb v ∧ jsize v ≤ 2002 := by rcases hva with h | h; exact absurd h.1 h1; exact h.2
  obtain ⟨_, _, hl0, hm0, _, _⟩ := (jb_eq v).1 hjb
  have hl : v.l.length ≤ 1000000000 := by omega
  have hm : v.m.length ≤ 1000000000 := by omega
  have hw : v.kind = 2 → rWhole v.n = decide (0 ≤ v.n.exp) := fun _ => may_whole hmy
  have hst := may_st hmy
  refine AWp_skip ?_
  refine zu1 ?_
  refine zt rfl (zc rfl (rcomp_c v _ _ (vcells_eq _) hjb (by omega))) ?_
  refine zv7 ?_
  refine AWp_seq ?_
  refine zw2 ?_
  refine AWp_cond rfl (fun h2 => ?_) (fun h2 => ?_)
  ·(try rw [h2]); replace h2 := zcl h2
   refine zw2 ?_
   refine zrt ?_
   exact ResQ_1 rfl hcl trivial (Ret_of rfl)
  ·(try rw [h2]); replace h2 := zcl h2
   have hlc := jcomp_ok hjb hst (by omega : jsize v ≤ 10000) h2
   generalize jcomp v = w at hlc h2 ⊢
   obtain ⟨lw, bw, pw⟩ := w
   dsimp only at hlc h2
   obtain ⟨hsl, hsk⟩ := jlink_ok hlc
   refine AWp_skip ?_
   refine zu1 ?_
   refine zt rfl (zc rfl (plink_c false lw _ _ rfl hlc)) ?_
   refine zv5 ?_
   refine zu1 ?_
   refine zt rfl (zc rfl (rlink_c false lw _ _ rfl hlc)) ?_
   refine zv7 ?_
   refine zu1 ?_
   refine zt rfl (zc rfl (spell_c (jlink lw).2 _ (jlink_0 _))) ?_
   refine zv5 ?_
   refine zu4 ?_
   refine ztG rfl rfl (zc rfl (sameN_c (jlink lw).1 _ hsl hsk)) ?_
   refine ztG rfl rfl (op_eqlT rfl rfl rfl rfl) ?_
   refine zg4 ?_
   refine ztG rfl rfl (op_eqlT rfl rfl rfl rfl) ?_
   refine zv7 ?_
   refine zrt ?_
   exact ResQ_1 rfl hcl trivial (Ret_of (by first | (congr 1; done) | (congr 1; exact decide_eq_true rfl)))
end Lg
set_option maxRecDepth 100000
set_option maxHeartbeats 4000000
namespace Go.Proofs.YtdacoelmmaiffaaDoor
open Go Go.ChangeShapes Go.WideShapes Go.ChangeAt Go.RowKit Go.Lib
open Go.ChangeMaps (open_string shut_string)
noncomputable def refsTells_lw (os : Os) : World := World.laidAll Tryd.prog os Rows.refsTellsRow.laid
theorem refsTells_pl : (Rows.refsTellsRow.laid.all fun x => x.2.handleName?.isNone) = true := by kernel_rfl
theorem refsTells_mh (os : Os) (args : Array Value) : laidMetH Tryd.prog Rows.refsTellsRow.laid ((refsTells_lw os).forCall (fun _ _ => 0) ⟨#[], args, []⟩).memory := by
  rw [MakeChecks.laidMetH_plain _ _ _ refsTells_pl]; exact laidMet_laidAll _ (by kernel_rfl) (by kernel_rfl)
theorem refsTells_lifted (os : Os) (started : os.Started) (H : Type) (enc : TypeId × Value → H) :
    ReturnsInHanded {} Tryd.checked os 3 .any (fun w args => (Rows.refsTellsSpec.pre enc Tryd.prog Tryd.f3 [] false w args ∧ laidMetH Tryd.prog Rows.refsTellsRow.laid w) ∧ sizedMet enc Tryd.prog Tryd.f3 (OpenSpec.ofChange Rows.refsTellsSpec) false w args)
      (Rows.refsTellsSpec.post enc Tryd.prog Tryd.f3 false true false false) := by
  refine Lg.returns_and_shaped (C := Tryd.checked) (X := fun w _ => laidMetH Tryd.prog Rows.refsTellsRow.laid w) (fun _ _ _ hh h => h.of_heap hh) own started (by kernel_rfl) Tryd.func3
    (ChangeSpec.witness_shaped (enc := enc) (C := Tryd.checked) (os := os) (X := fun w _ => laidMetH Tryd.prog Rows.refsTellsRow.laid w) false (refsTells_lw os) #[.string ⟨#[]⟩] 8 (World.laidAll_os _ _ _)
      (World.shaped_of_ZipB (by kernel_rfl) (by kernel_rfl)) (by kernel_rfl) (by kernel_rfl) (by kernel_rfl) (refsTells_mh os _)) ?_
  intro W base args ds gs before hval0 hW hL hS
  have hval : ∀ (j : Nat) t v, Tryd.f3.params[j]? = some t → args[j]? = some v → Value.okWide Tryd.prog W .any base t v := hval0
  have hW' := hW
  obtain ⟨p, q, hA0, hV, rfl, hfz, hnd⟩ := hW
  have hA : DataW.TrodAll enc Tryd.prog W 0 (fun _ => true) true Tryd.f3.params.toList args.toList ds p := hA0
  rw [Tryd.params3] at hA hval
  obtain ⟨v0, vs0, d0, ds0, p0, q0, hargs, rfl, rfl, h0, r0⟩ := trodAll_cons hA
  obtain ⟨rfl, rfl, rfl⟩ := trodAll_nil r0
  obtain rfl : args = #[v0] := by cases args; simp_all
  obtain ⟨rfl, rfl⟩ := trodVars_none hV
  obtain ⟨x0, rfl, rfl, rfl, w0⟩ := open_string Tryd.underlying9 (hval 0 9 v0 rfl rfl) h0
  clear hA0 hval0
  simp only [List.append_nil] at hW'
  have hcall := Lg.calls_of (P := Tryd.prog) (f := 3) (args := [.str x0]) (cargs := [.string x0]) (W := W)
    (fun st => (.cons (.str _) .nil))
    (fun hg => by haveI := Lg.ML.of hS hg; exact Lg.refsTells_c x0 [] )
  refine hcall.mono fun e W' ⟨he, hg⟩ => ?_
  subst he
  refine ⟨_, rfl, _, _, _, [], [], [], hW', trodAll_mk1 (shut_bool Tryd.underlying4 _), ?_, rfl, hg.frame _, fun h => by cases h⟩
  exact (trodAll_cons_mk (shut_string Tryd.underlying9 w0) trodAll_mk0)
theorem refsTells_holds : Rows.RefsTellsSaid :=
  OpenClaim.holds_of_wide 3 Tryd.f3 rfl rfl rfl rfl rfl rfl rfl ⟨rfl, rfl, rfl, rfl, rfl⟩ rfl rfl rfl rfl rfl (by kernel_rfl) Tryd.func3 (by kernel_rfl)
    (of_decide_eq_true (by kernel_rfl)) (by unfold Func.isWrapper; first | (rw [if_pos (by decide +kernel)]; kernel_rfl) | (rw [if_neg (by decide +kernel)]; exact ⟨rfl, rfl⟩))
    (fun os started H enc _ => refsTells_lifted os started H enc)
end Go.Proofs.YtdacoelmmaiffaaDoor
