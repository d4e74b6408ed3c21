/- A part of the proof of A value passes the const and the one-element enum of itself; numbers pass minimum, maximum, const as they stand to each other; a doubled list is not unique.: N2 N3 N4 N5. -/
import Derived.Test.YtpcjccmmeaaeaaaGreatDoorD5
import Derived.Test.YtpcjccmmeaaeaaaGreatDoorD4
set_option linter.unusedVariables false
set_option linter.unusedSimpArgs false
set_option linter.unusedSectionVars false
set_option maxRecDepth 20000
set_option maxHeartbeats 4000000
namespace Lg
open Go Go.Proofs Go.RowKit
variable [GLay] 
theorem run_n (s : ByteArray) (a : Nat) (σ : List AO) (hs : s.size ≤ 1000000) (ha : a ≤ 1000000) : ACalls Tryz.prog 70 [.str s, .int .i64 (a : Int)] σ (Ret (.int .i64 (runl s a : Int)) σ) := by
  have := run_c s (a : Int) σ (by omega) (by omega) (by omega)
  simpa using this
theorem end_c (s : ByteArray) (a : Nat) (σ : List AO) (hs : s.size ≤ 1000000) (ha : a ≤ s.size) : ACalls Tryz.prog 62 [.str s, .int .i64 (a : Int)] σ (Ret (.tup [.int .i64 ((rEnd s a).1 : Int), .bool (rEnd s a).2]) σ) := by
 refine ACalls_body Tryz.func62 rfl Tryz.ntmps62 (res2 Tryz.results62) (Nat.le_of_ble_eq_true rfl) (fun hcl hal => ?_)
 have hi1 := eSign_le ha
 have hr1 := runl_le s (eSign s a)
 refine zw2 ?_
 refine zw2 ?_
 refine AWp_join (ι := Unit) (fun b => True) (fun b => ⟨[], [(0, .str s), (6, .int .i64 (eSign s a : Int))]⟩) (fun b => σ) ?_ (fun b hj => ?_)
 ·skip
  refine zu5 ?_
  refine zsp 13 rfl (fun h1 => ?_) fun h1 => ?_
  ·rw [h1]; (try simp only [decide_eq_true_eq, decide_eq_false_iff_not, Bool.not_eq_true', Bool.not_eq_false', Int.not_lt, Int.not_le, Bool.not_true, Bool.not_false, Int.toNat_natCast, tn1, tn2, tnn, bne_iff_ne, beq_iff_eq, beq_eq_false_iff_ne, ne_eq, Decidable.not_not] at h1)
   refine zv5 ?_
   refine AWp_cond rfl (fun h2 => ?_) (fun h2 => ?_)
   ·(try rw [h2]); (try simp only [decide_eq_true_eq, decide_eq_false_iff_not, Bool.not_eq_true', Bool.not_eq_false', Int.not_lt, Int.not_le, Bool.not_true, Bool.not_false, Int.toNat_natCast, tn1, tn2, tnn, bne_iff_ne, beq_iff_eq, beq_eq_false_iff_ne, ne_eq, Decidable.not_not] at h2)
    refine AWp_regL ?_
    refine zv3 ?_
    refine ⟨(), trivial, ⟨rfl, rfl, ?_, trivial⟩, rfl⟩
    unfold eSign; first | (rw [if_pos (by omega)]; rfl) | (rw [if_neg (by omega)]; rfl)
   ·(try rw [h2]); (try simp only [decide_eq_true_eq, decide_eq_false_iff_not, Bool.not_eq_true', Bool.not_eq_false', Int.not_lt, Int.not_le, Bool.not_true, Bool.not_false, Int.toNat_natCast, tn1, tn2, tnn, bne_iff_ne, beq_iff_eq, beq_eq_false_iff_ne, ne_eq, Decidable.not_not] at h2)
    refine AWp_skip ?_
    refine ⟨(), trivial, ⟨rfl, rfl, ?_, trivial⟩, rfl⟩
    unfold eSign; first | (rw [if_pos (by omega)]; rfl) | (rw [if_neg (by omega)]; rfl)
  ·rw [h1]; (try simp only [decide_eq_true_eq, decide_eq_false_iff_not, Bool.not_eq_true', Bool.not_eq_false', Int.not_lt, Int.not_le, Bool.not_true, Bool.not_false, Int.toNat_natCast, tn1, tn2, tnn, bne_iff_ne, beq_iff_eq, beq_eq_false_iff_ne, ne_eq, Decidable.not_not] at h1)
   refine zv5 ?_
   refine AWp_condF rfl ?_
   refine AWp_skip ?_
   refine ⟨(), trivial, ⟨rfl, rfl, ?_, trivial⟩, rfl⟩
   unfold eSign; first | (rw [if_pos (by omega)]; rfl) | (rw [if_neg (by omega)]; rfl)
 ·skip
  refine zu2 ?_
  refine zt rfl (zc rfl (run_n s (eSign s a) _ hs (by omega))) ?_
  refine zv1 ?_
  refine AWp_seq ?_
  refine zw2 ?_
  refine AWp_cond rfl (fun h3 => ?_) (fun h3 => ?_)
  ·(try rw [h3]); (try simp only [decide_eq_true_eq, decide_eq_false_iff_not, Bool.not_eq_true', Bool.not_eq_false', Int.not_lt, Int.not_le, Bool.not_true, Bool.not_false, Int.toNat_natCast, tn1, tn2, tnn, bne_iff_ne, beq_iff_eq, beq_eq_false_iff_ne, ne_eq, Decidable.not_not] at h3)
   refine zw3 ?_
   refine zrt ?_
   have hE : rEnd s a = (eSign s a, false) := by unfold rEnd; rw [if_pos (by omega)]
   rw [hE]; exact ResQ_20 rfl rfl hcl (by simp [AV.lt, AV.ltL]) (Ret_of rfl)
  ·(try rw [h3]); (try simp only [decide_eq_true_eq, decide_eq_false_iff_not, Bool.not_eq_true', Bool.not_eq_false', Int.not_lt, Int.not_le, Bool.not_true, Bool.not_false, Int.toNat_natCast, tn1, tn2, tnn, bne_iff_ne, beq_iff_eq, beq_eq_false_iff_ne, ne_eq, Decidable.not_not] at h3)
   refine AWp_skip ?_
   refine AWp_join (ι := Unit) (fun b => True) (fun b => ⟨[], [(0, .str s), (6, .int .i64 (eSign s a : Int)), (7, .int .i64 (eInt s (eSign s a) : Int))]⟩) (fun b => σ) ?_ (fun b hj => ?_)
   ·skip
    refine zw4 ?_
    refine AWp_cond rfl (fun h4 => ?_) (fun h4 => ?_)
    ·(try rw [h4]); (try simp only [decide_eq_true_eq, decide_eq_false_iff_not, Bool.not_eq_true', Bool.not_eq_false', Int.not_lt, Int.not_le, Bool.not_true, Bool.not_false, Int.toNat_natCast, tn1, tn2, tnn, bne_iff_ne, beq_iff_eq, beq_eq_false_iff_ne, ne_eq, Decidable.not_not] at h4)
     refine AWp_regL ?_
     refine zv1 ?_
     refine ⟨(), trivial, ⟨rfl, rfl, rfl, ?_, trivial⟩, rfl⟩
     unfold eInt; first | (rw [if_pos (by omega)]; rfl) | (rw [if_neg (by omega)]; rfl)
    ·(try rw [h4]); (try simp only [decide_eq_true_eq, decide_eq_false_iff_not, Bool.not_eq_true', Bool.not_eq_false', Int.not_lt, Int.not_le, Bool.not_true, Bool.not_false, Int.toNat_natCast, tn1, tn2, tnn, bne_iff_ne, beq_iff_eq, beq_eq_false_iff_ne, ne_eq, Decidable.not_not] at h4)
     refine AWp_skip ?_
     refine ⟨(), trivial, ⟨rfl, rfl, rfl, ?_, trivial⟩, rfl⟩
     unfold eInt; first | (rw [if_pos (by omega)]; rfl) | (rw [if_neg (by omega)]; rfl)
   ·skip
    have hi2 := eInt_le hi1.2 (by omega)
    have hE : rEnd s a = eFrac s (eSign s a + eInt s (eSign s a)) := by unfold rEnd; rw [if_neg (by omega)]
    generalize hk : (eSign s a + eInt s (eSign s a)) = k at hE
    have hr2 := runl_le s (k + 1)
    refine zu3 ?_
    rw [← Int.natCast_add, hk]
    refine zv1 ?_
    refine AWp_join (ι := Nat) (fun j => rEnd s a = ePow s j ∧ j ≤ s.size) (fun j => ⟨[], [(0, .str s), (6, .int .i64 (j : Int))]⟩) (fun j => σ) ?_ (fun j hj => ?_)
    ·skip
     refine zu5 ?_
     refine zsp 38 rfl (fun h5 => ?_) fun h5 => ?_
     ·rw [h5]; (try simp only [decide_eq_true_eq, decide_eq_false_iff_not, Bool.not_eq_true', Bool.not_eq_false', Int.not_lt, Int.not_le, Bool.not_true, Bool.not_false, Int.toNat_natCast, tn1, tn2, tnn, bne_iff_ne, beq_iff_eq, beq_eq_false_iff_ne, ne_eq, Decidable.not_not] at h5)
      refine zv5 ?_
      refine AWp_cond rfl (fun h6 => ?_) (fun h6 => ?_)
      ·(try rw [h6]); (try simp only [decide_eq_true_eq, decide_eq_false_iff_not, Bool.not_eq_true', Bool.not_eq_false', Int.not_lt, Int.not_le, Bool.not_true, Bool.not_false, Int.toNat_natCast, tn1, tn2, tnn, bne_iff_ne, beq_iff_eq, beq_eq_false_iff_ne, ne_eq, Decidable.not_not] at h6)
       refine zu3 ?_
       refine zt rfl (zc rfl (run_n s (k + 1) _ hs (by omega))) ?_
       refine zv1 ?_
       refine zw5 ?_
       refine zw2 ?_
       refine AWp_cond rfl (fun h7 => ?_) (fun h7 => ?_)
       ·(try rw [h7]); (try simp only [decide_eq_true_eq, decide_eq_false_iff_not, Bool.not_eq_true', Bool.not_eq_false', Int.not_lt, Int.not_le, Bool.not_true, Bool.not_false, Int.toNat_natCast, tn1, tn2, tnn, bne_iff_ne, beq_iff_eq, beq_eq_false_iff_ne, ne_eq, Decidable.not_not] at h7)
        refine zw3 ?_
        refine zrt ?_
        have hE : rEnd s a = (k + 1, false) := by rw [hE]; unfold eFrac; rw [if_pos (by omega), if_pos (by omega)]
        rw [hE]; refine ResQ_20 rfl rfl hcl (by simp [AV.lt, AV.ltL]) (Ret_of ?_)
        congr 3; dsimp only; omega
       ·(try rw [h7]); (try simp only [decide_eq_true_eq, decide_eq_false_iff_not, Bool.not_eq_true', Bool.not_eq_false', Int.not_lt, Int.not_le, Bool.not_true, Bool.not_false, Int.toNat_natCast, tn1, tn2, tnn, bne_iff_ne, beq_iff_eq, beq_eq_false_iff_ne, ne_eq, Decidable.not_not] at h7)
        refine AWp_skip ?_
        first | refine ⟨k + 1 + runl s (k + 1), ⟨by rw [hE]; unfold eFrac; rw [if_pos (by omega), if_neg (by omega)], by omega⟩, ⟨rfl, rfl, rfl, trivial⟩, rfl⟩ | refine ⟨k, ⟨by rw [hE]; unfold eFrac; rw [if_neg (by omega)], by omega⟩, ⟨rfl, rfl, rfl, trivial⟩, rfl⟩
      ·(try rw [h6]); (try simp only [decide_eq_true_eq, decide_eq_false_iff_not, Bool.not_eq_true', Bool.not_eq_false', Int.not_lt, Int.not_le, Bool.not_true, Bool.not_false, Int.toNat_natCast, tn1, tn2, tnn, bne_iff_ne, beq_iff_eq, beq_eq_false_iff_ne, ne_eq, Decidable.not_not] at h6)
       refine AWp_skip ?_
       first | refine ⟨k + 1 + runl s (k + 1), ⟨by rw [hE]; unfold eFrac; rw [if_pos (by omega), if_neg (by omega)], by omega⟩, ⟨rfl, rfl, rfl, trivial⟩, rfl⟩ | refine ⟨k, ⟨by rw [hE]; unfold eFrac; rw [if_neg (by omega)], by omega⟩, ⟨rfl, rfl, rfl, trivial⟩, rfl⟩
     ·rw [h5]; (try simp only [decide_eq_true_eq, decide_eq_false_iff_not, Bool.not_eq_true', Bool.not_eq_false', Int.not_lt, Int.not_le, Bool.not_true, Bool.not_false, Int.toNat_natCast, tn1, tn2, tnn, bne_iff_ne, beq_iff_eq, beq_eq_false_iff_ne, ne_eq, Decidable.not_not] at h5)
      refine zv5 ?_
      refine AWp_condF rfl ?_
      refine AWp_skip ?_
      first | refine ⟨k + 1 + runl s (k + 1), ⟨by rw [hE]; unfold eFrac; rw [if_pos (by omega), if_neg (by omega)], by omega⟩, ⟨rfl, rfl, rfl, trivial⟩, rfl⟩ | refine ⟨k, ⟨by rw [hE]; unfold eFrac; rw [if_neg (by omega)], by omega⟩, ⟨rfl, rfl, rfl, trivial⟩, rfl⟩
    ·skip
     obtain ⟨hE, hj⟩ := hj
     refine AWp_seq ?_
     refine zu5 ?_
     refine zsp 59 rfl (fun h8 => ?_) fun h8 => ?_
     ·rw [h8]; (try simp only [decide_eq_true_eq, decide_eq_false_iff_not, Bool.not_eq_true', Bool.not_eq_false', Int.not_lt, Int.not_le, Bool.not_true, Bool.not_false, Int.toNat_natCast, tn1, tn2, tnn, bne_iff_ne, beq_iff_eq, beq_eq_false_iff_ne, ne_eq, Decidable.not_not] at h8)
      refine zg5 ?_
      refine zsp 64 rfl (fun h9 => ?_) fun h9 => ?_
      ·rw [h9]; (try simp only [decide_eq_true_eq, decide_eq_false_iff_not, Bool.not_eq_true', Bool.not_eq_false', Int.not_lt, Int.not_le, Bool.not_true, Bool.not_false, Int.toNat_natCast, tn1, tn2, tnn, bne_iff_ne, beq_iff_eq, beq_eq_false_iff_ne, ne_eq, Decidable.not_not] at h9)
       refine zv6 ?_
       refine AWp_condT rfl ?_
       refine zw3 ?_
       refine AWp_join (ι := Unit) (fun b => True) (fun b => ⟨[], [(0, .str s), (6, .int .i64 (eSg s (j + 1) : Int))]⟩) (fun b => σ) ?_ (fun b hj => ?_)
       ·skip
        refine zu5 ?_
        refine zsp 77 rfl (fun h10 => ?_) fun h10 => ?_
        ·rw [h10]; (try simp only [decide_eq_true_eq, decide_eq_false_iff_not, Bool.not_eq_true', Bool.not_eq_false', Int.not_lt, Int.not_le, Bool.not_true, Bool.not_false, Int.toNat_natCast, tn1, tn2, tnn, bne_iff_ne, beq_iff_eq, beq_eq_false_iff_ne, ne_eq, Decidable.not_not] at h10)
         refine zg5 ?_
         refine zsp 82 rfl (fun h11 => ?_) fun h11 => ?_
         ·rw [h11]; (try simp only [decide_eq_true_eq, decide_eq_false_iff_not, Bool.not_eq_true', Bool.not_eq_false', Int.not_lt, Int.not_le, Bool.not_true, Bool.not_false, Int.toNat_natCast, tn1, tn2, tnn, bne_iff_ne, beq_iff_eq, beq_eq_false_iff_ne, ne_eq, Decidable.not_not] at h11)
          refine zv6 ?_
          refine AWp_condT rfl ?_
          refine AWp_regL ?_
          refine zv3 ?_
          refine ⟨(), trivial, ⟨rfl, rfl, ?_, trivial⟩, rfl⟩
          unfold eSg; first | (rw [if_pos (by omega)]; rfl) | (rw [if_neg (by omega)]; rfl)
         ·rw [h11]; (try simp only [decide_eq_true_eq, decide_eq_false_iff_not, Bool.not_eq_true', Bool.not_eq_false', Int.not_lt, Int.not_le, Bool.not_true, Bool.not_false, Int.toNat_natCast, tn1, tn2, tnn, bne_iff_ne, beq_iff_eq, beq_eq_false_iff_ne, ne_eq, Decidable.not_not] at h11)
          refine zv6 ?_
          refine AWp_cond rfl (fun h12 => ?_) (fun h12 => ?_)
          ·(try rw [h12]); (try simp only [decide_eq_true_eq, decide_eq_false_iff_not, Bool.not_eq_true', Bool.not_eq_false', Int.not_lt, Int.not_le, Bool.not_true, Bool.not_false, Int.toNat_natCast, tn1, tn2, tnn, bne_iff_ne, beq_iff_eq, beq_eq_false_iff_ne, ne_eq, Decidable.not_not] at h12)
           refine AWp_regL ?_
           refine zv3 ?_
           refine ⟨(), trivial, ⟨rfl, rfl, ?_, trivial⟩, rfl⟩
           unfold eSg; first | (rw [if_pos (by omega)]; rfl) | (rw [if_neg (by omega)]; rfl)
          ·(try rw [h12]); (try simp only [decide_eq_true_eq, decide_eq_false_iff_not, Bool.not_eq_true', Bool.not_eq_false', Int.not_lt, Int.not_le, Bool.not_true, Bool.not_false, Int.toNat_natCast, tn1, tn2, tnn, bne_iff_ne, beq_iff_eq, beq_eq_false_iff_ne, ne_eq, Decidable.not_not] at h12)
           refine AWp_skip ?_
           refine ⟨(), trivial, ⟨rfl, rfl, ?_, trivial⟩, rfl⟩
           unfold eSg; first | (rw [if_pos (by omega)]; rfl) | (rw [if_neg (by omega)]; rfl)
        ·rw [h10]; (try simp only [decide_eq_true_eq, decide_eq_false_iff_not, Bool.not_eq_true', Bool.not_eq_false', Int.not_lt, Int.not_le, Bool.not_true, Bool.not_false, Int.toNat_natCast, tn1, tn2, tnn, bne_iff_ne, beq_iff_eq, beq_eq_false_iff_ne, ne_eq, Decidable.not_not] at h10)
         refine zg10 ?_
         refine zg1 ?_
         refine zon ?_
         refine AWp_condF rfl ?_
         refine AWp_skip ?_
         refine ⟨(), trivial, ⟨rfl, rfl, ?_, trivial⟩, rfl⟩
         unfold eSg; first | (rw [if_pos (by omega)]; rfl) | (rw [if_neg (by omega)]; rfl)
       ·skip
        have hi3 := eSg_le (s := s) (a := j + 1) (by omega)
        have hr3 := runl_le s (eSg s (j + 1))
        refine zu2 ?_
        refine zt rfl (zc rfl (run_n s (eSg s (j + 1)) _ hs (by omega))) ?_
        refine zv1 ?_
        refine zw4 ?_
        refine zw2 ?_
        refine AWp_cond rfl (fun h13 => ?_) (fun h13 => ?_)
        ·(try rw [h13]); (try simp only [decide_eq_true_eq, decide_eq_false_iff_not, Bool.not_eq_true', Bool.not_eq_false', Int.not_lt, Int.not_le, Bool.not_true, Bool.not_false, Int.toNat_natCast, tn1, tn2, tnn, bne_iff_ne, beq_iff_eq, beq_eq_false_iff_ne, ne_eq, Decidable.not_not] at h13)
         refine zw3 ?_
         refine zrt ?_
         first | (have hE2 : rEnd s a = (eSg s (j + 1), false) := by rw [hE]; unfold ePow; rw [if_pos (by omega), if_pos (by omega)]); rw [hE2]; (refine ResQ_20 rfl rfl hcl (by simp [AV.lt, AV.ltL]) (Ret_of ?_)); congr 3; dsimp only; omega | (have hE2 : rEnd s a = (eSg s (j + 1) + runl s (eSg s (j + 1)), true) := by rw [hE]; unfold ePow; rw [if_pos (by omega), if_neg (by omega)]); rw [hE2]; exact ResQ_20 rfl rfl hcl (by simp [AV.lt, AV.ltL]) (Ret_of rfl) | (have hE2 : rEnd s a = (j, true) := by rw [hE]; unfold ePow; rw [if_neg (by omega)]); rw [hE2]; exact ResQ_20 rfl rfl hcl (by simp [AV.lt, AV.ltL]) (Ret_of rfl)
        ·(try rw [h13]); (try simp only [decide_eq_true_eq, decide_eq_false_iff_not, Bool.not_eq_true', Bool.not_eq_false', Int.not_lt, Int.not_le, Bool.not_true, Bool.not_false, Int.toNat_natCast, tn1, tn2, tnn, bne_iff_ne, beq_iff_eq, beq_eq_false_iff_ne, ne_eq, Decidable.not_not] at h13)
         refine AWp_skip ?_
         refine zw3 ?_
         refine zrt ?_
         first | (have hE2 : rEnd s a = (eSg s (j + 1), false) := by rw [hE]; unfold ePow; rw [if_pos (by omega), if_pos (by omega)]); rw [hE2]; (refine ResQ_20 rfl rfl hcl (by simp [AV.lt, AV.ltL]) (Ret_of ?_)); congr 3; dsimp only; omega | (have hE2 : rEnd s a = (eSg s (j + 1) + runl s (eSg s (j + 1)), true) := by rw [hE]; unfold ePow; rw [if_pos (by omega), if_neg (by omega)]); rw [hE2]; exact ResQ_20 rfl rfl hcl (by simp [AV.lt, AV.ltL]) (Ret_of rfl) | (have hE2 : rEnd s a = (j, true) := by rw [hE]; unfold ePow; rw [if_neg (by omega)]); rw [hE2]; exact ResQ_20 rfl rfl hcl (by simp [AV.lt, AV.ltL]) (Ret_of rfl)
      ·rw [h9]; (try simp only [decide_eq_true_eq, decide_eq_false_iff_not, Bool.not_eq_true', Bool.not_eq_false', Int.not_lt, Int.not_le, Bool.not_true, Bool.not_false, Int.toNat_natCast, tn1, tn2, tnn, bne_iff_ne, beq_iff_eq, beq_eq_false_iff_ne, ne_eq, Decidable.not_not] at h9)
       refine zv6 ?_
       refine AWp_cond rfl (fun h14 => ?_) (fun h14 => ?_)
       ·(try rw [h14]); (try simp only [decide_eq_true_eq, decide_eq_false_iff_not, Bool.not_eq_true', Bool.not_eq_false', Int.not_lt, Int.not_le, Bool.not_true, Bool.not_false, Int.toNat_natCast, tn1, tn2, tnn, bne_iff_ne, beq_iff_eq, beq_eq_false_iff_ne, ne_eq, Decidable.not_not] at h14)
        refine zw3 ?_
        refine AWp_join (ι := Unit) (fun b => True) (fun b => ⟨[], [(0, .str s), (6, .int .i64 (eSg s (j + 1) : Int))]⟩) (fun b => σ) ?_ (fun b hj => ?_)
        ·skip
         refine zu5 ?_
         refine zsp 77 rfl (fun h15 => ?_) fun h15 => ?_
         ·rw [h15]; (try simp only [decide_eq_true_eq, decide_eq_false_iff_not, Bool.not_eq_true', Bool.not_eq_false', Int.not_lt, Int.not_le, Bool.not_true, Bool.not_false, Int.toNat_natCast, tn1, tn2, tnn, bne_iff_ne, beq_iff_eq, beq_eq_false_iff_ne, ne_eq, Decidable.not_not] at h15)
          refine zg5 ?_
          refine zsp 82 rfl (fun h16 => ?_) fun h16 => ?_
          ·rw [h16]; (try simp only [decide_eq_true_eq, decide_eq_false_iff_not, Bool.not_eq_true', Bool.not_eq_false', Int.not_lt, Int.not_le, Bool.not_true, Bool.not_false, Int.toNat_natCast, tn1, tn2, tnn, bne_iff_ne, beq_iff_eq, beq_eq_false_iff_ne, ne_eq, Decidable.not_not] at h16)
           refine zv6 ?_
           refine AWp_condT rfl ?_
           refine AWp_regL ?_
           refine zv3 ?_
           refine ⟨(), trivial, ⟨rfl, rfl, ?_, trivial⟩, rfl⟩
           unfold eSg; first | (rw [if_pos (by omega)]; rfl) | (rw [if_neg (by omega)]; rfl)
          ·rw [h16]; (try simp only [decide_eq_true_eq, decide_eq_false_iff_not, Bool.not_eq_true', Bool.not_eq_false', Int.not_lt, Int.not_le, Bool.not_true, Bool.not_false, Int.toNat_natCast, tn1, tn2, tnn, bne_iff_ne, beq_iff_eq, beq_eq_false_iff_ne, ne_eq, Decidable.not_not] at h16)
           refine zv6 ?_
           refine AWp_cond rfl (fun h17 => ?_) (fun h17 => ?_)
           ·(try rw [h17]); (try simp only [decide_eq_true_eq, decide_eq_false_iff_not, Bool.not_eq_true', Bool.not_eq_false', Int.not_lt, Int.not_le, Bool.not_true, Bool.not_false, Int.toNat_natCast, tn1, tn2, tnn, bne_iff_ne, beq_iff_eq, beq_eq_false_iff_ne, ne_eq, Decidable.not_not] at h17)
            refine AWp_regL ?_
            refine zv3 ?_
            refine ⟨(), trivial, ⟨rfl, rfl, ?_, trivial⟩, rfl⟩
            unfold eSg; first | (rw [if_pos (by omega)]; rfl) | (rw [if_neg (by omega)]; rfl)
           ·(try rw [h17]); (try simp only [decide_eq_true_eq, decide_eq_false_iff_not, Bool.not_eq_true', Bool.not_eq_false', Int.not_lt, Int.not_le, Bool.not_true, Bool.not_false, Int.toNat_natCast, tn1, tn2, tnn, bne_iff_ne, beq_iff_eq, beq_eq_false_iff_ne, ne_eq, Decidable.not_not] at h17)
            refine AWp_skip ?_
            refine ⟨(), trivial, ⟨rfl, rfl, ?_, trivial⟩, rfl⟩
            unfold eSg; first | (rw [if_pos (by omega)]; rfl) | (rw [if_neg (by omega)]; rfl)
         ·rw [h15]; (try simp only [decide_eq_true_eq, decide_eq_false_iff_not, Bool.not_eq_true', Bool.not_eq_false', Int.not_lt, Int.not_le, Bool.not_true, Bool.not_false, Int.toNat_natCast, tn1, tn2, tnn, bne_iff_ne, beq_iff_eq, beq_eq_false_iff_ne, ne_eq, Decidable.not_not] at h15)
          refine zg10 ?_
          refine zg1 ?_
          refine zon ?_
          refine AWp_condF rfl ?_
          refine AWp_skip ?_
          refine ⟨(), trivial, ⟨rfl, rfl, ?_, trivial⟩, rfl⟩
          unfold eSg; first | (rw [if_pos (by omega)]; rfl) | (rw [if_neg (by omega)]; rfl)
        ·skip
         have hi3 := eSg_le (s := s) (a := j + 1) (by omega)
         have hr3 := runl_le s (eSg s (j + 1))
         refine zu2 ?_
         refine zt rfl (zc rfl (run_n s (eSg s (j + 1)) _ hs (by omega))) ?_
         refine zv1 ?_
         refine zw4 ?_
         refine zw2 ?_
         refine AWp_cond rfl (fun h18 => ?_) (fun h18 => ?_)
         ·(try rw [h18]); (try simp only [decide_eq_true_eq, decide_eq_false_iff_not, Bool.not_eq_true', Bool.not_eq_false', Int.not_lt, Int.not_le, Bool.not_true, Bool.not_false, Int.toNat_natCast, tn1, tn2, tnn, bne_iff_ne, beq_iff_eq, beq_eq_false_iff_ne, ne_eq, Decidable.not_not] at h18)
          refine zw3 ?_
          refine zrt ?_
          first | (have hE2 : rEnd s a = (eSg s (j + 1), false) := by rw [hE]; unfold ePow; rw [if_pos (by omega), if_pos (by omega)]); rw [hE2]; (refine ResQ_20 rfl rfl hcl (by simp [AV.lt, AV.ltL]) (Ret_of ?_)); congr 3; dsimp only; omega | (have hE2 : rEnd s a = (eSg s (j + 1) + runl s (eSg s (j + 1)), true) := by rw [hE]; unfold ePow; rw [if_pos (by omega), if_neg (by omega)]); rw [hE2]; exact ResQ_20 rfl rfl hcl (by simp [AV.lt, AV.ltL]) (Ret_of rfl) | (have hE2 : rEnd s a = (j, true) := by rw [hE]; unfold ePow; rw [if_neg (by omega)]); rw [hE2]; exact ResQ_20 rfl rfl hcl (by simp [AV.lt, AV.ltL]) (Ret_of rfl)
         ·(try rw [h18]); (try simp only [decide_eq_true_eq, decide_eq_false_iff_not, Bool.not_eq_true', Bool.not_eq_false', Int.not_lt, Int.not_le, Bool.not_true, Bool.not_false, Int.toNat_natCast, tn1, tn2, tnn, bne_iff_ne, beq_iff_eq, beq_eq_false_iff_ne, ne_eq, Decidable.not_not] at h18)
          refine AWp_skip ?_
          refine zw3 ?_
          refine zrt ?_
          first | (have hE2 : rEnd s a = (eSg s (j + 1), false) := by rw [hE]; unfold ePow; rw [if_pos (by omega), if_pos (by omega)]); rw [hE2]; (refine ResQ_20 rfl rfl hcl (by simp [AV.lt, AV.ltL]) (Ret_of ?_)); congr 3; dsimp only; omega | (have hE2 : rEnd s a = (eSg s (j + 1) + runl s (eSg s (j + 1)), true) := by rw [hE]; unfold ePow; rw [if_pos (by omega), if_neg (by omega)]); rw [hE2]; exact ResQ_20 rfl rfl hcl (by simp [AV.lt, AV.ltL]) (Ret_of rfl) | (have hE2 : rEnd s a = (j, true) := by rw [hE]; unfold ePow; rw [if_neg (by omega)]); rw [hE2]; exact ResQ_20 rfl rfl hcl (by simp [AV.lt, AV.ltL]) (Ret_of rfl)
       ·(try rw [h14]); (try simp only [decide_eq_true_eq, decide_eq_false_iff_not, Bool.not_eq_true', Bool.not_eq_false', Int.not_lt, Int.not_le, Bool.not_true, Bool.not_false, Int.toNat_natCast, tn1, tn2, tnn, bne_iff_ne, beq_iff_eq, beq_eq_false_iff_ne, ne_eq, Decidable.not_not] at h14)
        refine AWp_skip ?_
        refine zw3 ?_
        refine zrt ?_
        first | (have hE2 : rEnd s a = (eSg s (j + 1), false) := by rw [hE]; unfold ePow; rw [if_pos (by omega), if_pos (by omega)]); rw [hE2]; (refine ResQ_20 rfl rfl hcl (by simp [AV.lt, AV.ltL]) (Ret_of ?_)); congr 3; dsimp only; omega | (have hE2 : rEnd s a = (eSg s (j + 1) + runl s (eSg s (j + 1)), true) := by rw [hE]; unfold ePow; rw [if_pos (by omega), if_neg (by omega)]); rw [hE2]; exact ResQ_20 rfl rfl hcl (by simp [AV.lt, AV.ltL]) (Ret_of rfl) | (have hE2 : rEnd s a = (j, true) := by rw [hE]; unfold ePow; rw [if_neg (by omega)]); rw [hE2]; exact ResQ_20 rfl rfl hcl (by simp [AV.lt, AV.ltL]) (Ret_of rfl)
     ·rw [h8]; (try simp only [decide_eq_true_eq, decide_eq_false_iff_not, Bool.not_eq_true', Bool.not_eq_false', Int.not_lt, Int.not_le, Bool.not_true, Bool.not_false, Int.toNat_natCast, tn1, tn2, tnn, bne_iff_ne, beq_iff_eq, beq_eq_false_iff_ne, ne_eq, Decidable.not_not] at h8)
      refine zg10 ?_
      refine zg1 ?_
      refine zon ?_
      refine AWp_condF rfl ?_
      refine AWp_skip ?_
      refine zw3 ?_
      refine zrt ?_
      first | (have hE2 : rEnd s a = (eSg s (j + 1), false) := by rw [hE]; unfold ePow; rw [if_pos (by omega), if_pos (by omega)]); rw [hE2]; (refine ResQ_20 rfl rfl hcl (by simp [AV.lt, AV.ltL]) (Ret_of ?_)); congr 3; dsimp only; omega | (have hE2 : rEnd s a = (eSg s (j + 1) + runl s (eSg s (j + 1)), true) := by rw [hE]; unfold ePow; rw [if_pos (by omega), if_neg (by omega)]); rw [hE2]; exact ResQ_20 rfl rfl hcl (by simp [AV.lt, AV.ltL]) (Ret_of rfl) | (have hE2 : rEnd s a = (j, true) := by rw [hE]; unfold ePow; rw [if_neg (by omega)]); rw [hE2]; exact ResQ_20 rfl rfl hcl (by simp [AV.lt, AV.ltL]) (Ret_of rfl)

theorem rnum_c (s : ByteArray) (σ : List AO) (hs : s.size ≤ 1000000) : ACalls Tryz.prog 63 [.str s] σ (Ret (.tup [.agg (ncells (rNum s).1), .int .i64 (rNum s).2]) σ) := by
 refine ACalls_bodyC Tryz.func63 rfl Tryz.ntmps63 (by rw [Tryz.results63]; exact (.ck Tryz.isAgg24 Tryz.sizeOf24 (.t .nil))) (Nat.le_of_ble_eq_true rfl) (fun hcl hal => ?_)
 refine zw2 ?_
 refine zu1 ?_
 refine zt rfl (zc rfl (end_c s 0 _ hs (by omega))) ?_
 refine zv5 ?_
 refine AWp_seq ?_
 refine zu3 ?_
 refine zsp 25 rfl (fun h1 => ?_) fun h1 => ?_
 ·rw [h1]; (try simp only [decide_eq_true_eq, decide_eq_false_iff_not, Bool.not_eq_true', Bool.not_eq_false', Int.not_lt, Int.not_le, Bool.not_true, Bool.not_false, Int.toNat_natCast, tn1, tn2, tm1, tnn, bne_iff_ne, beq_iff_eq, beq_eq_false_iff_ne, ne_eq, Decidable.not_not] at h1)
  refine zv5 ?_
  refine AWp_condT rfl ?_
  refine zw3 ?_
  refine zrt ?_
  have hE : rNum s = ({}, 1) := by unfold rNum; rw [if_pos (.inl (by simpa using h1))]
  rw [hE]; exact RQ_ret (rkvs_cons (rkv_ck rfl rfl rfl) (rkvs_cons (rkv_t rfl) rfl)) hcl (by simp [rks, AV.lt, AV.ltL, ofConst1, ncells]) (Ret_of rfl)
 ·rw [h1]; (try simp only [decide_eq_true_eq, decide_eq_false_iff_not, Bool.not_eq_true', Bool.not_eq_false', Int.not_lt, Int.not_le, Bool.not_true, Bool.not_false, Int.toNat_natCast, tn1, tn2, tm1, tnn, bne_iff_ne, beq_iff_eq, beq_eq_false_iff_ne, ne_eq, Decidable.not_not] at h1)
  refine zv5 ?_
  refine AWp_cond rfl (fun h2 => ?_) (fun h2 => ?_)
  ·(try rw [h2]); (try simp only [decide_eq_true_eq, decide_eq_false_iff_not, Bool.not_eq_true', Bool.not_eq_false', Int.not_lt, Int.not_le, Bool.not_true, Bool.not_false, Int.toNat_natCast, tn1, tn2, tm1, tnn, bne_iff_ne, beq_iff_eq, beq_eq_false_iff_ne, ne_eq, Decidable.not_not] at h2)
   refine zw3 ?_
   refine zrt ?_
   have hE : rNum s = ({}, 1) := by unfold rNum; rw [if_pos (.inr (by omega))]
   rw [hE]; exact RQ_ret (rkvs_cons (rkv_ck rfl rfl rfl) (rkvs_cons (rkv_t rfl) rfl)) hcl (by simp [rks, AV.lt, AV.ltL, ofConst1, ncells]) (Ret_of rfl)
  ·(try rw [h2]); (try simp only [decide_eq_true_eq, decide_eq_false_iff_not, Bool.not_eq_true', Bool.not_eq_false', Int.not_lt, Int.not_le, Bool.not_true, Bool.not_false, Int.toNat_natCast, tn1, tn2, tm1, tnn, bne_iff_ne, beq_iff_eq, beq_eq_false_iff_ne, ne_eq, Decidable.not_not] at h2)
   refine AWp_skip ?_
   refine zw1 ?_
   refine zw1 ?_
   refine zw1 ?_
   refine zw1 ?_
   refine zw1 ?_
   refine zw1 ?_
   refine zw1 ?_
   refine AWp_seq ?_
   refine zw1 ?_
   refine AWp_block ?_
   -- loop 0 LIVE 0:param 2:alloc 3:assign 6:alloc 7:assign 8:assign 9:assign 10:assign 11:assign 12:assign 13:assign
   refine AWp_loop (ι := Nat × NSt) (fun q => nloop s q.1 q.2 = nloop s 0 nst0 ∧ q.1 ≤ s.size ∧ (0 ≤ q.2.behind ∧ q.2.behind ≤ q.1) ∧ q.2.digits.size ≤ q.1 ∧ 0 ≤ q.2.exp ∧ q.2.exp ≤ 1000000) (fun q => ⟨[], [(0, .str s), (2, .ptr (σ.length + 0) 0), (6, .ptr (σ.length + 1) 0), (7, .str q.2.digits), (8, .int .i64 q.2.behind), (9, .bool q.2.point), (10, .int .i64 q.2.exp), (11, .bool q.2.down), (12, .bool q.2.power), (13, .int .i64 (q.1 : Int))]⟩) (fun q => σ ++ [.box [.bool false, .str e0, .int .i64 0], .box [.bool q.2.neg, .str e0, .int .i64 0]]) (fun q => s.size - q.1) ((0, nst0)) (⟨rfl, Nat.zero_le _, ⟨Int.le_refl _, Int.le_refl _⟩, Nat.le_refl _, Int.le_refl _, by decide⟩) ?_ rfl (fun q hq => ?_)
   ·exact ⟨rfl, rfl, rfl, rfl, rfl, rfl, rfl, rfl, rfl, rfl, rfl, trivial⟩
   obtain ⟨i, ng, dn, pt, pw, d, b, x⟩ := q
   obtain ⟨hq1, hq2, hq3, hq4, hq5, hq6⟩ := hq
   simp only at hq1 hq2 hq3 hq4 hq5 hq6 ⊢
   have hbl := bat_lt s i
   have h1s : (ByteArray.mk #[u8b ((bat s i).toNat : Int)]).size = 1 := rfl
   refine AWp_seq ?_
   refine zw4 ?_
   refine AWp_cond rfl (fun h3 => ?_) (fun h3 => ?_)
   ·(try rw [h3]); (try simp only [decide_eq_true_eq, decide_eq_false_iff_not, Bool.not_eq_true', Bool.not_eq_false', Int.not_lt, Int.not_le, Bool.not_true, Bool.not_false, Int.toNat_natCast, tn1, tn2, tm1, tnn, bne_iff_ne, beq_iff_eq, beq_eq_false_iff_ne, ne_eq, Decidable.not_not] at h3)
    refine AWp_skip ?_
    refine AWp_seq ?_
    refine AWp_block ?_
    refine zu3 ?_
    simp only [Int.toNat_natCast]
    refine zv1 ?_
    refine zw1 ?_
    refine AWp_cond rfl (fun h4 => ?_) (fun h4 => ?_)
    ·(try rw [h4]); (try simp only [decide_eq_true_eq, decide_eq_false_iff_not, Bool.not_eq_true', Bool.not_eq_false', Int.not_lt, Int.not_le, Bool.not_true, Bool.not_false, Int.toNat_natCast, tn1, tn2, tm1, tnn, bne_iff_ne, beq_iff_eq, beq_eq_false_iff_ne, ne_eq, Decidable.not_not] at h4)
     subst h4
     refine AWp_seq ?_
     refine zw2 ?_
     refine AWp_cond rfl (fun h5 => ?_) (fun h5 => ?_)
     ·(try rw [h5]); (try simp only [decide_eq_true_eq, decide_eq_false_iff_not, Bool.not_eq_true', Bool.not_eq_false', Int.not_lt, Int.not_le, Bool.not_true, Bool.not_false, Int.toNat_natCast, tn1, tn2, tm1, tnn, bne_iff_ne, beq_iff_eq, beq_eq_false_iff_ne, ne_eq, Decidable.not_not] at h5)
      refine AWp_regL ?_
      refine zv1 ?_
      refine zu3 ?_
      refine zsp 46 rfl (fun h6 => ?_) fun h6 => ?_
      ·rw [h6]; (try simp only [decide_eq_true_eq, decide_eq_false_iff_not, Bool.not_eq_true', Bool.not_eq_false', Int.not_lt, Int.not_le, Bool.not_true, Bool.not_false, Int.toNat_natCast, tn1, tn2, tm1, tnn, bne_iff_ne, beq_iff_eq, beq_eq_false_iff_ne, ne_eq, Decidable.not_not] at h6)
       refine zv3 ?_
       refine AWp_cond rfl (fun h7 => ?_) (fun h7 => ?_)
       ·(try rw [h7]); (try simp only [decide_eq_true_eq, decide_eq_false_iff_not, Bool.not_eq_true', Bool.not_eq_false', Int.not_lt, Int.not_le, Bool.not_true, Bool.not_false, Int.toNat_natCast, tn1, tn2, tm1, tnn, bne_iff_ne, beq_iff_eq, beq_eq_false_iff_ne, ne_eq, Decidable.not_not] at h7)
        refine AWp_regL ?_
        refine zv8 ?_
        refine AWp_regL ?_
        refine zv3 ?_
        first | (exfalso; omega; done) | exact ⟨(i + 1, ⟨ng, true, pt, true, d, b, x⟩), σ.length + 2, ⟨by rw [← hq1]; exact (nl1 (by omega) (by omega)).symm, by simp only; omega, by simp only; omega, by simp only [ByteArray.size_append]; omega, by simp only; omega, by simp only; omega⟩, by simp only; omega, by simp, ⟨rfl, rfl, rfl, rfl, rfl, rfl, rfl, rfl, rfl, rfl, rfl, trivial⟩, closed_own 2 hcl (by simp [ownLt, AO.cells, AV.ltL, AV.lt]), by simp [ltE, AV.lt], take_own 2⟩ | exact ⟨(i + 1, ⟨ng, dn, pt, true, d, b, min (10 * x + (bat s i).toNat - 48) 1000000⟩), σ.length + 2, ⟨by rw [← hq1]; exact (nl2 (by omega) (by omega)).symm, by simp only; omega, by simp only; omega, by simp only [ByteArray.size_append]; omega, by simp only; omega, by simp only; omega⟩, by simp only; omega, by simp, ⟨rfl, rfl, rfl, rfl, rfl, rfl, rfl, rfl, rfl, rfl, rfl, trivial⟩, closed_own 2 hcl (by simp [ownLt, AO.cells, AV.ltL, AV.lt]), by simp [ltE, AV.lt], take_own 2⟩ | exact ⟨(i + 1, ⟨ng, dn, pt, true, d, b, x⟩), σ.length + 2, ⟨by rw [← hq1]; exact (nl3 (by omega) (by omega) (by omega)).symm, by simp only; omega, by simp only; omega, by simp only [ByteArray.size_append]; omega, by simp only; omega, by simp only; omega⟩, by simp only; omega, by simp, ⟨rfl, rfl, rfl, rfl, rfl, rfl, rfl, rfl, rfl, rfl, rfl, trivial⟩, closed_own 2 hcl (by simp [ownLt, AO.cells, AV.ltL, AV.lt]), by simp [ltE, AV.lt], take_own 2⟩ | exact ⟨(i + 1, ⟨true, dn, pt, false, d, b, x⟩), σ.length + 2, ⟨by rw [← hq1]; exact (nl4 (by omega) (by omega)).symm, by simp only; omega, by simp only; omega, by simp only [ByteArray.size_append]; omega, by simp only; omega, by simp only; omega⟩, by simp only; omega, by simp, ⟨rfl, rfl, rfl, rfl, rfl, rfl, rfl, rfl, rfl, rfl, rfl, trivial⟩, closed_own 2 hcl (by simp [ownLt, AO.cells, AV.ltL, AV.lt]), by simp [ltE, AV.lt], take_own 2⟩ | exact ⟨(i + 1, ⟨ng, dn, true, false, d, b, x⟩), σ.length + 2, ⟨by rw [← hq1]; exact (nl5 (by omega) (by omega)).symm, by simp only; omega, by simp only; omega, by simp only [ByteArray.size_append]; omega, by simp only; omega, by simp only; omega⟩, by simp only; omega, by simp, ⟨rfl, rfl, rfl, rfl, rfl, rfl, rfl, rfl, rfl, rfl, rfl, trivial⟩, closed_own 2 hcl (by simp [ownLt, AO.cells, AV.ltL, AV.lt]), by simp [ltE, AV.lt], take_own 2⟩ | exact ⟨(i + 1, ⟨ng, dn, pt, true, d, b, x⟩), σ.length + 2, ⟨by rw [← hq1]; exact (nl6 (by omega) (by omega)).symm, by simp only; omega, by simp only; omega, by simp only [ByteArray.size_append]; omega, by simp only; omega, by simp only; omega⟩, by simp only; omega, by simp, ⟨rfl, rfl, rfl, rfl, rfl, rfl, rfl, rfl, rfl, rfl, rfl, trivial⟩, closed_own 2 hcl (by simp [ownLt, AO.cells, AV.ltL, AV.lt]), by simp [ltE, AV.lt], take_own 2⟩ | exact ⟨(i + 1, ⟨ng, dn, true, false, d ++ ⟨#[u8b ((bat s i).toNat : Int)]⟩, b + 1, x⟩), σ.length + 2, ⟨by rw [← hq1]; exact (nl7 (by omega) (by omega) (by omega) (by omega)).symm, by simp only; omega, by simp only; omega, by simp only [ByteArray.size_append]; omega, by simp only; omega, by simp only; omega⟩, by simp only; omega, by simp, ⟨rfl, rfl, rfl, rfl, rfl, rfl, rfl, rfl, rfl, rfl, rfl, trivial⟩, closed_own 2 hcl (by simp [ownLt, AO.cells, AV.ltL, AV.lt]), by simp [ltE, AV.lt], take_own 2⟩ | exact ⟨(i + 1, ⟨ng, dn, false, false, d ++ ⟨#[u8b ((bat s i).toNat : Int)]⟩, b, x⟩), σ.length + 2, ⟨by rw [← hq1]; exact (nl8 (by omega) (by omega) (by omega) (by omega)).symm, by simp only; omega, by simp only; omega, by simp only [ByteArray.size_append]; omega, by simp only; omega, by simp only; omega⟩, by simp only; omega, by simp, ⟨rfl, rfl, rfl, rfl, rfl, rfl, rfl, rfl, rfl, rfl, rfl, trivial⟩, closed_own 2 hcl (by simp [ownLt, AO.cells, AV.ltL, AV.lt]), by simp [ltE, AV.lt], take_own 2⟩
       ·(try rw [h7]); (try simp only [decide_eq_true_eq, decide_eq_false_iff_not, Bool.not_eq_true', Bool.not_eq_false', Int.not_lt, Int.not_le, Bool.not_true, Bool.not_false, Int.toNat_natCast, tn1, tn2, tm1, tnn, bne_iff_ne, beq_iff_eq, beq_eq_false_iff_ne, ne_eq, Decidable.not_not] at h7)
        refine AWp_skip ?_
        refine AWp_regL ?_
        refine zv3 ?_
        first | (exfalso; omega; done) | exact ⟨(i + 1, ⟨ng, true, pt, true, d, b, x⟩), σ.length + 2, ⟨by rw [← hq1]; exact (nl1 (by omega) (by omega)).symm, by simp only; omega, by simp only; omega, by simp only [ByteArray.size_append]; omega, by simp only; omega, by simp only; omega⟩, by simp only; omega, by simp, ⟨rfl, rfl, rfl, rfl, rfl, rfl, rfl, rfl, rfl, rfl, rfl, trivial⟩, closed_own 2 hcl (by simp [ownLt, AO.cells, AV.ltL, AV.lt]), by simp [ltE, AV.lt], take_own 2⟩ | exact ⟨(i + 1, ⟨ng, dn, pt, true, d, b, min (10 * x + (bat s i).toNat - 48) 1000000⟩), σ.length + 2, ⟨by rw [← hq1]; exact (nl2 (by omega) (by omega)).symm, by simp only; omega, by simp only; omega, by simp only [ByteArray.size_append]; omega, by simp only; omega, by simp only; omega⟩, by simp only; omega, by simp, ⟨rfl, rfl, rfl, rfl, rfl, rfl, rfl, rfl, rfl, rfl, rfl, trivial⟩, closed_own 2 hcl (by simp [ownLt, AO.cells, AV.ltL, AV.lt]), by simp [ltE, AV.lt], take_own 2⟩ | exact ⟨(i + 1, ⟨ng, dn, pt, true, d, b, x⟩), σ.length + 2, ⟨by rw [← hq1]; exact (nl3 (by omega) (by omega) (by omega)).symm, by simp only; omega, by simp only; omega, by simp only [ByteArray.size_append]; omega, by simp only; omega, by simp only; omega⟩, by simp only; omega, by simp, ⟨rfl, rfl, rfl, rfl, rfl, rfl, rfl, rfl, rfl, rfl, rfl, trivial⟩, closed_own 2 hcl (by simp [ownLt, AO.cells, AV.ltL, AV.lt]), by simp [ltE, AV.lt], take_own 2⟩ | exact ⟨(i + 1, ⟨true, dn, pt, false, d, b, x⟩), σ.length + 2, ⟨by rw [← hq1]; exact (nl4 (by omega) (by omega)).symm, by simp only; omega, by simp only; omega, by simp only [ByteArray.size_append]; omega, by simp only; omega, by simp only; omega⟩, by simp only; omega, by simp, ⟨rfl, rfl, rfl, rfl, rfl, rfl, rfl, rfl, rfl, rfl, rfl, trivial⟩, closed_own 2 hcl (by simp [ownLt, AO.cells, AV.ltL, AV.lt]), by simp [ltE, AV.lt], take_own 2⟩ | exact ⟨(i + 1, ⟨ng, dn, true, false, d, b, x⟩), σ.length + 2, ⟨by rw [← hq1]; exact (nl5 (by omega) (by omega)).symm, by simp only; omega, by simp only; omega, by simp only [ByteArray.size_append]; omega, by simp only; omega, by simp only; omega⟩, by simp only; omega, by simp, ⟨rfl, rfl, rfl, rfl, rfl, rfl, rfl, rfl, rfl, rfl, rfl, trivial⟩, closed_own 2 hcl (by simp [ownLt, AO.cells, AV.ltL, AV.lt]), by simp [ltE, AV.lt], take_own 2⟩ | exact ⟨(i + 1, ⟨ng, dn, pt, true, d, b, x⟩), σ.length + 2, ⟨by rw [← hq1]; exact (nl6 (by omega) (by omega)).symm, by simp only; omega, by simp only; omega, by simp only [ByteArray.size_append]; omega, by simp only; omega, by simp only; omega⟩, by simp only; omega, by simp, ⟨rfl, rfl, rfl, rfl, rfl, rfl, rfl, rfl, rfl, rfl, rfl, trivial⟩, closed_own 2 hcl (by simp [ownLt, AO.cells, AV.ltL, AV.lt]), by simp [ltE, AV.lt], take_own 2⟩ | exact ⟨(i + 1, ⟨ng, dn, true, false, d ++ ⟨#[u8b ((bat s i).toNat : Int)]⟩, b + 1, x⟩), σ.length + 2, ⟨by rw [← hq1]; exact (nl7 (by omega) (by omega) (by omega) (by omega)).symm, by simp only; omega, by simp only; omega, by simp only [ByteArray.size_append]; omega, by simp only; omega, by simp only; omega⟩, by simp only; omega, by simp, ⟨rfl, rfl, rfl, rfl, rfl, rfl, rfl, rfl, rfl, rfl, rfl, trivial⟩, closed_own 2 hcl (by simp [ownLt, AO.cells, AV.ltL, AV.lt]), by simp [ltE, AV.lt], take_own 2⟩ | exact ⟨(i + 1, ⟨ng, dn, false, false, d ++ ⟨#[u8b ((bat s i).toNat : Int)]⟩, b, x⟩), σ.length + 2, ⟨by rw [← hq1]; exact (nl8 (by omega) (by omega) (by omega) (by omega)).symm, by simp only; omega, by simp only; omega, by simp only [ByteArray.size_append]; omega, by simp only; omega, by simp only; omega⟩, by simp only; omega, by simp, ⟨rfl, rfl, rfl, rfl, rfl, rfl, rfl, rfl, rfl, rfl, rfl, trivial⟩, closed_own 2 hcl (by simp [ownLt, AO.cells, AV.ltL, AV.lt]), by simp [ltE, AV.lt], take_own 2⟩
      ·rw [h6]; (try simp only [decide_eq_true_eq, decide_eq_false_iff_not, Bool.not_eq_true', Bool.not_eq_false', Int.not_lt, Int.not_le, Bool.not_true, Bool.not_false, Int.toNat_natCast, tn1, tn2, tm1, tnn, bne_iff_ne, beq_iff_eq, beq_eq_false_iff_ne, ne_eq, Decidable.not_not] at h6)
       refine zv3 ?_
       refine AWp_condF rfl ?_
       refine AWp_skip ?_
       refine AWp_regL ?_
       refine zv3 ?_
       first | (exfalso; omega; done) | exact ⟨(i + 1, ⟨ng, true, pt, true, d, b, x⟩), σ.length + 2, ⟨by rw [← hq1]; exact (nl1 (by omega) (by omega)).symm, by simp only; omega, by simp only; omega, by simp only [ByteArray.size_append]; omega, by simp only; omega, by simp only; omega⟩, by simp only; omega, by simp, ⟨rfl, rfl, rfl, rfl, rfl, rfl, rfl, rfl, rfl, rfl, rfl, trivial⟩, closed_own 2 hcl (by simp [ownLt, AO.cells, AV.ltL, AV.lt]), by simp [ltE, AV.lt], take_own 2⟩ | exact ⟨(i + 1, ⟨ng, dn, pt, true, d, b, min (10 * x + (bat s i).toNat - 48) 1000000⟩), σ.length + 2, ⟨by rw [← hq1]; exact (nl2 (by omega) (by omega)).symm, by simp only; omega, by simp only; omega, by simp only [ByteArray.size_append]; omega, by simp only; omega, by simp only; omega⟩, by simp only; omega, by simp, ⟨rfl, rfl, rfl, rfl, rfl, rfl, rfl, rfl, rfl, rfl, rfl, trivial⟩, closed_own 2 hcl (by simp [ownLt, AO.cells, AV.ltL, AV.lt]), by simp [ltE, AV.lt], take_own 2⟩ | exact ⟨(i + 1, ⟨ng, dn, pt, true, d, b, x⟩), σ.length + 2, ⟨by rw [← hq1]; exact (nl3 (by omega) (by omega) (by omega)).symm, by simp only; omega, by simp only; omega, by simp only [ByteArray.size_append]; omega, by simp only; omega, by simp only; omega⟩, by simp only; omega, by simp, ⟨rfl, rfl, rfl, rfl, rfl, rfl, rfl, rfl, rfl, rfl, rfl, trivial⟩, closed_own 2 hcl (by simp [ownLt, AO.cells, AV.ltL, AV.lt]), by simp [ltE, AV.lt], take_own 2⟩ | exact ⟨(i + 1, ⟨true, dn, pt, false, d, b, x⟩), σ.length + 2, ⟨by rw [← hq1]; exact (nl4 (by omega) (by omega)).symm, by simp only; omega, by simp only; omega, by simp only [ByteArray.size_append]; omega, by simp only; omega, by simp only; omega⟩, by simp only; omega, by simp, ⟨rfl, rfl, rfl, rfl, rfl, rfl, rfl, rfl, rfl, rfl, rfl, trivial⟩, closed_own 2 hcl (by simp [ownLt, AO.cells, AV.ltL, AV.lt]), by simp [ltE, AV.lt], take_own 2⟩ | exact ⟨(i + 1, ⟨ng, dn, true, false, d, b, x⟩), σ.length + 2, ⟨by rw [← hq1]; exact (nl5 (by omega) (by omega)).symm, by simp only; omega, by simp only; omega, by simp only [ByteArray.size_append]; omega, by simp only; omega, by simp only; omega⟩, by simp only; omega, by simp, ⟨rfl, rfl, rfl, rfl, rfl, rfl, rfl, rfl, rfl, rfl, rfl, trivial⟩, closed_own 2 hcl (by simp [ownLt, AO.cells, AV.ltL, AV.lt]), by simp [ltE, AV.lt], take_own 2⟩ | exact ⟨(i + 1, ⟨ng, dn, pt, true, d, b, x⟩), σ.length + 2, ⟨by rw [← hq1]; exact (nl6 (by omega) (by omega)).symm, by simp only; omega, by simp only; omega, by simp only [ByteArray.size_append]; omega, by simp only; omega, by simp only; omega⟩, by simp only; omega, by simp, ⟨rfl, rfl, rfl, rfl, rfl, rfl, rfl, rfl, rfl, rfl, rfl, trivial⟩, closed_own 2 hcl (by simp [ownLt, AO.cells, AV.ltL, AV.lt]), by simp [ltE, AV.lt], take_own 2⟩ | exact ⟨(i + 1, ⟨ng, dn, true, false, d ++ ⟨#[u8b ((bat s i).toNat : Int)]⟩, b + 1, x⟩), σ.length + 2, ⟨by rw [← hq1]; exact (nl7 (by omega) (by omega) (by omega) (by omega)).symm, by simp only; omega, by simp only; omega, by simp only [ByteArray.size_append]; omega, by simp only; omega, by simp only; omega⟩, by simp only; omega, by simp, ⟨rfl, rfl, rfl, rfl, rfl, rfl, rfl, rfl, rfl, rfl, rfl, trivial⟩, closed_own 2 hcl (by simp [ownLt, AO.cells, AV.ltL, AV.lt]), by simp [ltE, AV.lt], take_own 2⟩ | exact ⟨(i + 1, ⟨ng, dn, false, false, d ++ ⟨#[u8b ((bat s i).toNat : Int)]⟩, b, x⟩), σ.length + 2, ⟨by rw [← hq1]; exact (nl8 (by omega) (by omega) (by omega) (by omega)).symm, by simp only; omega, by simp only; omega, by simp only [ByteArray.size_append]; omega, by simp only; omega, by simp only; omega⟩, by simp only; omega, by simp, ⟨rfl, rfl, rfl, rfl, rfl, rfl, rfl, rfl, rfl, rfl, rfl, trivial⟩, closed_own 2 hcl (by simp [ownLt, AO.cells, AV.ltL, AV.lt]), by simp [ltE, AV.lt], take_own 2⟩
     ·(try rw [h5]); (try simp only [decide_eq_true_eq, decide_eq_false_iff_not, Bool.not_eq_true', Bool.not_eq_false', Int.not_lt, Int.not_le, Bool.not_true, Bool.not_false, Int.toNat_natCast, tn1, tn2, tm1, tnn, bne_iff_ne, beq_iff_eq, beq_eq_false_iff_ne, ne_eq, Decidable.not_not] at h5)
      refine AWp_skip ?_
      refine zu3 ?_
      refine zsp 46 rfl (fun h8 => ?_) fun h8 => ?_
      ·rw [h8]; (try simp only [decide_eq_true_eq, decide_eq_false_iff_not, Bool.not_eq_true', Bool.not_eq_false', Int.not_lt, Int.not_le, Bool.not_true, Bool.not_false, Int.toNat_natCast, tn1, tn2, tm1, tnn, bne_iff_ne, beq_iff_eq, beq_eq_false_iff_ne, ne_eq, Decidable.not_not] at h8)
       refine zv3 ?_
       refine AWp_cond rfl (fun h9 => ?_) (fun h9 => ?_)
       ·(try rw [h9]); (try simp only [decide_eq_true_eq, decide_eq_false_iff_not, Bool.not_eq_true', Bool.not_eq_false', Int.not_lt, Int.not_le, Bool.not_true, Bool.not_false, Int.toNat_natCast, tn1, tn2, tm1, tnn, bne_iff_ne, beq_iff_eq, beq_eq_false_iff_ne, ne_eq, Decidable.not_not] at h9)
        refine AWp_regL ?_
        refine zv8 ?_
        refine AWp_regL ?_
        refine zv3 ?_
        first | (exfalso; omega; done) | exact ⟨(i + 1, ⟨ng, true, pt, true, d, b, x⟩), σ.length + 2, ⟨by rw [← hq1]; exact (nl1 (by omega) (by omega)).symm, by simp only; omega, by simp only; omega, by simp only [ByteArray.size_append]; omega, by simp only; omega, by simp only; omega⟩, by simp only; omega, by simp, ⟨rfl, rfl, rfl, rfl, rfl, rfl, rfl, rfl, rfl, rfl, rfl, trivial⟩, closed_own 2 hcl (by simp [ownLt, AO.cells, AV.ltL, AV.lt]), by simp [ltE, AV.lt], take_own 2⟩ | exact ⟨(i + 1, ⟨ng, dn, pt, true, d, b, min (10 * x + (bat s i).toNat - 48) 1000000⟩), σ.length + 2, ⟨by rw [← hq1]; exact (nl2 (by omega) (by omega)).symm, by simp only; omega, by simp only; omega, by simp only [ByteArray.size_append]; omega, by simp only; omega, by simp only; omega⟩, by simp only; omega, by simp, ⟨rfl, rfl, rfl, rfl, rfl, rfl, rfl, rfl, rfl, rfl, rfl, trivial⟩, closed_own 2 hcl (by simp [ownLt, AO.cells, AV.ltL, AV.lt]), by simp [ltE, AV.lt], take_own 2⟩ | exact ⟨(i + 1, ⟨ng, dn, pt, true, d, b, x⟩), σ.length + 2, ⟨by rw [← hq1]; exact (nl3 (by omega) (by omega) (by omega)).symm, by simp only; omega, by simp only; omega, by simp only [ByteArray.size_append]; omega, by simp only; omega, by simp only; omega⟩, by simp only; omega, by simp, ⟨rfl, rfl, rfl, rfl, rfl, rfl, rfl, rfl, rfl, rfl, rfl, trivial⟩, closed_own 2 hcl (by simp [ownLt, AO.cells, AV.ltL, AV.lt]), by simp [ltE, AV.lt], take_own 2⟩ | exact ⟨(i + 1, ⟨true, dn, pt, false, d, b, x⟩), σ.length + 2, ⟨by rw [← hq1]; exact (nl4 (by omega) (by omega)).symm, by simp only; omega, by simp only; omega, by simp only [ByteArray.size_append]; omega, by simp only; omega, by simp only; omega⟩, by simp only; omega, by simp, ⟨rfl, rfl, rfl, rfl, rfl, rfl, rfl, rfl, rfl, rfl, rfl, trivial⟩, closed_own 2 hcl (by simp [ownLt, AO.cells, AV.ltL, AV.lt]), by simp [ltE, AV.lt], take_own 2⟩ | exact ⟨(i + 1, ⟨ng, dn, true, false, d, b, x⟩), σ.length + 2, ⟨by rw [← hq1]; exact (nl5 (by omega) (by omega)).symm, by simp only; omega, by simp only; omega, by simp only [ByteArray.size_append]; omega, by simp only; omega, by simp only; omega⟩, by simp only; omega, by simp, ⟨rfl, rfl, rfl, rfl, rfl, rfl, rfl, rfl, rfl, rfl, rfl, trivial⟩, closed_own 2 hcl (by simp [ownLt, AO.cells, AV.ltL, AV.lt]), by simp [ltE, AV.lt], take_own 2⟩ | exact ⟨(i + 1, ⟨ng, dn, pt, true, d, b, x⟩), σ.length + 2, ⟨by rw [← hq1]; exact (nl6 (by omega) (by omega)).symm, by simp only; omega, by simp only; omega, by simp only [ByteArray.size_append]; omega, by simp only; omega, by simp only; omega⟩, by simp only; omega, by simp, ⟨rfl, rfl, rfl, rfl, rfl, rfl, rfl, rfl, rfl, rfl, rfl, trivial⟩, closed_own 2 hcl (by simp [ownLt, AO.cells, AV.ltL, AV.lt]), by simp [ltE, AV.lt], take_own 2⟩ | exact ⟨(i + 1, ⟨ng, dn, true, false, d ++ ⟨#[u8b ((bat s i).toNat : Int)]⟩, b + 1, x⟩), σ.length + 2, ⟨by rw [← hq1]; exact (nl7 (by omega) (by omega) (by omega) (by omega)).symm, by simp only; omega, by simp only; omega, by simp only [ByteArray.size_append]; omega, by simp only; omega, by simp only; omega⟩, by simp only; omega, by simp, ⟨rfl, rfl, rfl, rfl, rfl, rfl, rfl, rfl, rfl, rfl, rfl, trivial⟩, closed_own 2 hcl (by simp [ownLt, AO.cells, AV.ltL, AV.lt]), by simp [ltE, AV.lt], take_own 2⟩ | exact ⟨(i + 1, ⟨ng, dn, false, false, d ++ ⟨#[u8b ((bat s i).toNat : Int)]⟩, b, x⟩), σ.length + 2, ⟨by rw [← hq1]; exact (nl8 (by omega) (by omega) (by omega) (by omega)).symm, by simp only; omega, by simp only; omega, by simp only [ByteArray.size_append]; omega, by simp only; omega, by simp only; omega⟩, by simp only; omega, by simp, ⟨rfl, rfl, rfl, rfl, rfl, rfl, rfl, rfl, rfl, rfl, rfl, trivial⟩, closed_own 2 hcl (by simp [ownLt, AO.cells, AV.ltL, AV.lt]), by simp [ltE, AV.lt], take_own 2⟩
       ·(try rw [h9]); (try simp only [decide_eq_true_eq, decide_eq_false_iff_not, Bool.not_eq_true', Bool.not_eq_false', Int.not_lt, Int.not_le, Bool.not_true, Bool.not_false, Int.toNat_natCast, tn1, tn2, tm1, tnn, bne_iff_ne, beq_iff_eq, beq_eq_false_iff_ne, ne_eq, Decidable.not_not] at h9)
        refine AWp_skip ?_
        refine AWp_regL ?_
        refine zv3 ?_
        first | (exfalso; omega; done) | exact ⟨(i + 1, ⟨ng, true, pt, true, d, b, x⟩), σ.length + 2, ⟨by rw [← hq1]; exact (nl1 (by omega) (by omega)).symm, by simp only; omega, by simp only; omega, by simp only [ByteArray.size_append]; omega, by simp only; omega, by simp only; omega⟩, by simp only; omega, by simp, ⟨rfl, rfl, rfl, rfl, rfl, rfl, rfl, rfl, rfl, rfl, rfl, trivial⟩, closed_own 2 hcl (by simp [ownLt, AO.cells, AV.ltL, AV.lt]), by simp [ltE, AV.lt], take_own 2⟩ | exact ⟨(i + 1, ⟨ng, dn, pt, true, d, b, min (10 * x + (bat s i).toNat - 48) 1000000⟩), σ.length + 2, ⟨by rw [← hq1]; exact (nl2 (by omega) (by omega)).symm, by simp only; omega, by simp only; omega, by simp only [ByteArray.size_append]; omega, by simp only; omega, by simp only; omega⟩, by simp only; omega, by simp, ⟨rfl, rfl, rfl, rfl, rfl, rfl, rfl, rfl, rfl, rfl, rfl, trivial⟩, closed_own 2 hcl (by simp [ownLt, AO.cells, AV.ltL, AV.lt]), by simp [ltE, AV.lt], take_own 2⟩ | exact ⟨(i + 1, ⟨ng, dn, pt, true, d, b, x⟩), σ.length + 2, ⟨by rw [← hq1]; exact (nl3 (by omega) (by omega) (by omega)).symm, by simp only; omega, by simp only; omega, by simp only [ByteArray.size_append]; omega, by simp only; omega, by simp only; omega⟩, by simp only; omega, by simp, ⟨rfl, rfl, rfl, rfl, rfl, rfl, rfl, rfl, rfl, rfl, rfl, trivial⟩, closed_own 2 hcl (by simp [ownLt, AO.cells, AV.ltL, AV.lt]), by simp [ltE, AV.lt], take_own 2⟩ | exact ⟨(i + 1, ⟨true, dn, pt, false, d, b, x⟩), σ.length + 2, ⟨by rw [← hq1]; exact (nl4 (by omega) (by omega)).symm, by simp only; omega, by simp only; omega, by simp only [ByteArray.size_append]; omega, by simp only; omega, by simp only; omega⟩, by simp only; omega, by simp, ⟨rfl, rfl, rfl, rfl, rfl, rfl, rfl, rfl, rfl, rfl, rfl, trivial⟩, closed_own 2 hcl (by simp [ownLt, AO.cells, AV.ltL, AV.lt]), by simp [ltE, AV.lt], take_own 2⟩ | exact ⟨(i + 1, ⟨ng, dn, true, false, d, b, x⟩), σ.length + 2, ⟨by rw [← hq1]; exact (nl5 (by omega) (by omega)).symm, by simp only; omega, by simp only; omega, by simp only [ByteArray.size_append]; omega, by simp only; omega, by simp only; omega⟩, by simp only; omega, by simp, ⟨rfl, rfl, rfl, rfl, rfl, rfl, rfl, rfl, rfl, rfl, rfl, trivial⟩, closed_own 2 hcl (by simp [ownLt, AO.cells, AV.ltL, AV.lt]), by simp [ltE, AV.lt], take_own 2⟩ | exact ⟨(i + 1, ⟨ng, dn, pt, true, d, b, x⟩), σ.length + 2, ⟨by rw [← hq1]; exact (nl6 (by omega) (by omega)).symm, by simp only; omega, by simp only; omega, by simp only [ByteArray.size_append]; omega, by simp only; omega, by simp only; omega⟩, by simp only; omega, by simp, ⟨rfl, rfl, rfl, rfl, rfl, rfl, rfl, rfl, rfl, rfl, rfl, trivial⟩, closed_own 2 hcl (by simp [ownLt, AO.cells, AV.ltL, AV.lt]), by simp [ltE, AV.lt], take_own 2⟩ | exact ⟨(i + 1, ⟨ng, dn, true, false, d ++ ⟨#[u8b ((bat s i).toNat : Int)]⟩, b + 1, x⟩), σ.length + 2, ⟨by rw [← hq1]; exact (nl7 (by omega) (by omega) (by omega) (by omega)).symm, by simp only; omega, by simp only; omega, by simp only [ByteArray.size_append]; omega, by simp only; omega, by simp only; omega⟩, by simp only; omega, by simp, ⟨rfl, rfl, rfl, rfl, rfl, rfl, rfl, rfl, rfl, rfl, rfl, trivial⟩, closed_own 2 hcl (by simp [ownLt, AO.cells, AV.ltL, AV.lt]), by simp [ltE, AV.lt], take_own 2⟩ | exact ⟨(i + 1, ⟨ng, dn, false, false, d ++ ⟨#[u8b ((bat s i).toNat : Int)]⟩, b, x⟩), σ.length + 2, ⟨by rw [← hq1]; exact (nl8 (by omega) (by omega) (by omega) (by omega)).symm, by simp only; omega, by simp only; omega, by simp only [ByteArray.size_append]; omega, by simp only; omega, by simp only; omega⟩, by simp only; omega, by simp, ⟨rfl, rfl, rfl, rfl, rfl, rfl, rfl, rfl, rfl, rfl, rfl, trivial⟩, closed_own 2 hcl (by simp [ownLt, AO.cells, AV.ltL, AV.lt]), by simp [ltE, AV.lt], take_own 2⟩
      ·rw [h8]; (try simp only [decide_eq_true_eq, decide_eq_false_iff_not, Bool.not_eq_true', Bool.not_eq_false', Int.not_lt, Int.not_le, Bool.not_true, Bool.not_false, Int.toNat_natCast, tn1, tn2, tm1, tnn, bne_iff_ne, beq_iff_eq, beq_eq_false_iff_ne, ne_eq, Decidable.not_not] at h8)
       refine zv3 ?_
       refine AWp_condF rfl ?_
       refine AWp_skip ?_
       refine AWp_regL ?_
       refine zv3 ?_
       first | (exfalso; omega; done) | exact ⟨(i + 1, ⟨ng, true, pt, true, d, b, x⟩), σ.length + 2, ⟨by rw [← hq1]; exact (nl1 (by omega) (by omega)).symm, by simp only; omega, by simp only; omega, by simp only [ByteArray.size_append]; omega, by simp only; omega, by simp only; omega⟩, by simp only; omega, by simp, ⟨rfl, rfl, rfl, rfl, rfl, rfl, rfl, rfl, rfl, rfl, rfl, trivial⟩, closed_own 2 hcl (by simp [ownLt, AO.cells, AV.ltL, AV.lt]), by simp [ltE, AV.lt], take_own 2⟩ | exact ⟨(i + 1, ⟨ng, dn, pt, true, d, b, min (10 * x + (bat s i).toNat - 48) 1000000⟩), σ.length + 2, ⟨by rw [← hq1]; exact (nl2 (by omega) (by omega)).symm, by simp only; omega, by simp only; omega, by simp only [ByteArray.size_append]; omega, by simp only; omega, by simp only; omega⟩, by simp only; omega, by simp, ⟨rfl, rfl, rfl, rfl, rfl, rfl, rfl, rfl, rfl, rfl, rfl, trivial⟩, closed_own 2 hcl (by simp [ownLt, AO.cells, AV.ltL, AV.lt]), by simp [ltE, AV.lt], take_own 2⟩ | exact ⟨(i + 1, ⟨ng, dn, pt, true, d, b, x⟩), σ.length + 2, ⟨by rw [← hq1]; exact (nl3 (by omega) (by omega) (by omega)).symm, by simp only; omega, by simp only; omega, by simp only [ByteArray.size_append]; omega, by simp only; omega, by simp only; omega⟩, by simp only; omega, by simp, ⟨rfl, rfl, rfl, rfl, rfl, rfl, rfl, rfl, rfl, rfl, rfl, trivial⟩, closed_own 2 hcl (by simp [ownLt, AO.cells, AV.ltL, AV.lt]), by simp [ltE, AV.lt], take_own 2⟩ | exact ⟨(i + 1, ⟨true, dn, pt, false, d, b, x⟩), σ.length + 2, ⟨by rw [← hq1]; exact (nl4 (by omega) (by omega)).symm, by simp only; omega, by simp only; omega, by simp only [ByteArray.size_append]; omega, by simp only; omega, by simp only; omega⟩, by simp only; omega, by simp, ⟨rfl, rfl, rfl, rfl, rfl, rfl, rfl, rfl, rfl, rfl, rfl, trivial⟩, closed_own 2 hcl (by simp [ownLt, AO.cells, AV.ltL, AV.lt]), by simp [ltE, AV.lt], take_own 2⟩ | exact ⟨(i + 1, ⟨ng, dn, true, false, d, b, x⟩), σ.length + 2, ⟨by rw [← hq1]; exact (nl5 (by omega) (by omega)).symm, by simp only; omega, by simp only; omega, by simp only [ByteArray.size_append]; omega, by simp only; omega, by simp only; omega⟩, by simp only; omega, by simp, ⟨rfl, rfl, rfl, rfl, rfl, rfl, rfl, rfl, rfl, rfl, rfl, trivial⟩, closed_own 2 hcl (by simp [ownLt, AO.cells, AV.ltL, AV.lt]), by simp [ltE, AV.lt], take_own 2⟩ | exact ⟨(i + 1, ⟨ng, dn, pt, true, d, b, x⟩), σ.length + 2, ⟨by rw [← hq1]; exact (nl6 (by omega) (by omega)).symm, by simp only; omega, by simp only; omega, by simp only [ByteArray.size_append]; omega, by simp only; omega, by simp only; omega⟩, by simp only; omega, by simp, ⟨rfl, rfl, rfl, rfl, rfl, rfl, rfl, rfl, rfl, rfl, rfl, trivial⟩, closed_own 2 hcl (by simp [ownLt, AO.cells, AV.ltL, AV.lt]), by simp [ltE, AV.lt], take_own 2⟩ | exact ⟨(i + 1, ⟨ng, dn, true, false, d ++ ⟨#[u8b ((bat s i).toNat : Int)]⟩, b + 1, x⟩), σ.length + 2, ⟨by rw [← hq1]; exact (nl7 (by omega) (by omega) (by omega) (by omega)).symm, by simp only; omega, by simp only; omega, by simp only [ByteArray.size_append]; omega, by simp only; omega, by simp only; omega⟩, by simp only; omega, by simp, ⟨rfl, rfl, rfl, rfl, rfl, rfl, rfl, rfl, rfl, rfl, rfl, trivial⟩, closed_own 2 hcl (by simp [ownLt, AO.cells, AV.ltL, AV.lt]), by simp [ltE, AV.lt], take_own 2⟩ | exact ⟨(i + 1, ⟨ng, dn, false, false, d ++ ⟨#[u8b ((bat s i).toNat : Int)]⟩, b, x⟩), σ.length + 2, ⟨by rw [← hq1]; exact (nl8 (by omega) (by omega) (by omega) (by omega)).symm, by simp only; omega, by simp only; omega, by simp only [ByteArray.size_append]; omega, by simp only; omega, by simp only; omega⟩, by simp only; omega, by simp, ⟨rfl, rfl, rfl, rfl, rfl, rfl, rfl, rfl, rfl, rfl, rfl, trivial⟩, closed_own 2 hcl (by simp [ownLt, AO.cells, AV.ltL, AV.lt]), by simp [ltE, AV.lt], take_own 2⟩
    ·(try rw [h4]); (try simp only [decide_eq_true_eq, decide_eq_false_iff_not, Bool.not_eq_true', Bool.not_eq_false', Int.not_lt, Int.not_le, Bool.not_true, Bool.not_false, Int.toNat_natCast, tn1, tn2, tm1, tnn, bne_iff_ne, beq_iff_eq, beq_eq_false_iff_ne, ne_eq, Decidable.not_not] at h4)
     subst h4
     refine zw2 ?_
     refine AWp_cond rfl (fun h10 => ?_) (fun h10 => ?_)
     ·(try rw [h10]); (try simp only [decide_eq_true_eq, decide_eq_false_iff_not, Bool.not_eq_true', Bool.not_eq_false', Int.not_lt, Int.not_le, Bool.not_true, Bool.not_false, Int.toNat_natCast, tn1, tn2, tm1, tnn, bne_iff_ne, beq_iff_eq, beq_eq_false_iff_ne, ne_eq, Decidable.not_not] at h10)
      refine AWp_regL ?_
      refine zg1 ?_
      refine ztN rfl rfl (op_storeO (r := [.bool true, .str e0, .int .i64 0]) rfl Tryz.sizeOf4 rfl rfl rfl rfl rfl (by decide)) ?_
      refine zon ?_
      refine AWp_regL ?_
      refine zv3 ?_
      first | (exfalso; omega; done) | exact ⟨(i + 1, ⟨ng, true, pt, true, d, b, x⟩), σ.length + 2, ⟨by rw [← hq1]; exact (nl1 (by omega) (by omega)).symm, by simp only; omega, by simp only; omega, by simp only [ByteArray.size_append]; omega, by simp only; omega, by simp only; omega⟩, by simp only; omega, by simp, ⟨rfl, rfl, rfl, rfl, rfl, rfl, rfl, rfl, rfl, rfl, rfl, trivial⟩, closed_own 2 hcl (by simp [ownLt, AO.cells, AV.ltL, AV.lt]), by simp [ltE, AV.lt], take_own 2⟩ | exact ⟨(i + 1, ⟨ng, dn, pt, true, d, b, min (10 * x + (bat s i).toNat - 48) 1000000⟩), σ.length + 2, ⟨by rw [← hq1]; exact (nl2 (by omega) (by omega)).symm, by simp only; omega, by simp only; omega, by simp only [ByteArray.size_append]; omega, by simp only; omega, by simp only; omega⟩, by simp only; omega, by simp, ⟨rfl, rfl, rfl, rfl, rfl, rfl, rfl, rfl, rfl, rfl, rfl, trivial⟩, closed_own 2 hcl (by simp [ownLt, AO.cells, AV.ltL, AV.lt]), by simp [ltE, AV.lt], take_own 2⟩ | exact ⟨(i + 1, ⟨ng, dn, pt, true, d, b, x⟩), σ.length + 2, ⟨by rw [← hq1]; exact (nl3 (by omega) (by omega) (by omega)).symm, by simp only; omega, by simp only; omega, by simp only [ByteArray.size_append]; omega, by simp only; omega, by simp only; omega⟩, by simp only; omega, by simp, ⟨rfl, rfl, rfl, rfl, rfl, rfl, rfl, rfl, rfl, rfl, rfl, trivial⟩, closed_own 2 hcl (by simp [ownLt, AO.cells, AV.ltL, AV.lt]), by simp [ltE, AV.lt], take_own 2⟩ | exact ⟨(i + 1, ⟨true, dn, pt, false, d, b, x⟩), σ.length + 2, ⟨by rw [← hq1]; exact (nl4 (by omega) (by omega)).symm, by simp only; omega, by simp only; omega, by simp only [ByteArray.size_append]; omega, by simp only; omega, by simp only; omega⟩, by simp only; omega, by simp, ⟨rfl, rfl, rfl, rfl, rfl, rfl, rfl, rfl, rfl, rfl, rfl, trivial⟩, closed_own 2 hcl (by simp [ownLt, AO.cells, AV.ltL, AV.lt]), by simp [ltE, AV.lt], take_own 2⟩ | exact ⟨(i + 1, ⟨ng, dn, true, false, d, b, x⟩), σ.length + 2, ⟨by rw [← hq1]; exact (nl5 (by omega) (by omega)).symm, by simp only; omega, by simp only; omega, by simp only [ByteArray.size_append]; omega, by simp only; omega, by simp only; omega⟩, by simp only; omega, by simp, ⟨rfl, rfl, rfl, rfl, rfl, rfl, rfl, rfl, rfl, rfl, rfl, trivial⟩, closed_own 2 hcl (by simp [ownLt, AO.cells, AV.ltL, AV.lt]), by simp [ltE, AV.lt], take_own 2⟩ | exact ⟨(i + 1, ⟨ng, dn, pt, true, d, b, x⟩), σ.length + 2, ⟨by rw [← hq1]; exact (nl6 (by omega) (by omega)).symm, by simp only; omega, by simp only; omega, by simp only [ByteArray.size_append]; omega, by simp only; omega, by simp only; omega⟩, by simp only; omega, by simp, ⟨rfl, rfl, rfl, rfl, rfl, rfl, rfl, rfl, rfl, rfl, rfl, trivial⟩, closed_own 2 hcl (by simp [ownLt, AO.cells, AV.ltL, AV.lt]), by simp [ltE, AV.lt], take_own 2⟩ | exact ⟨(i + 1, ⟨ng, dn, true, false, d ++ ⟨#[u8b ((bat s i).toNat : Int)]⟩, b + 1, x⟩), σ.length + 2, ⟨by rw [← hq1]; exact (nl7 (by omega) (by omega) (by omega) (by omega)).symm, by simp only; omega, by simp only; omega, by simp only [ByteArray.size_append]; omega, by simp only; omega, by simp only; omega⟩, by simp only; omega, by simp, ⟨rfl, rfl, rfl, rfl, rfl, rfl, rfl, rfl, rfl, rfl, rfl, trivial⟩, closed_own 2 hcl (by simp [ownLt, AO.cells, AV.ltL, AV.lt]), by simp [ltE, AV.lt], take_own 2⟩ | exact ⟨(i + 1, ⟨ng, dn, false, false, d ++ ⟨#[u8b ((bat s i).toNat : Int)]⟩, b, x⟩), σ.length + 2, ⟨by rw [← hq1]; exact (nl8 (by omega) (by omega) (by omega) (by omega)).symm, by simp only; omega, by simp only; omega, by simp only [ByteArray.size_append]; omega, by simp only; omega, by simp only; omega⟩, by simp only; omega, by simp, ⟨rfl, rfl, rfl, rfl, rfl, rfl, rfl, rfl, rfl, rfl, rfl, trivial⟩, closed_own 2 hcl (by simp [ownLt, AO.cells, AV.ltL, AV.lt]), by simp [ltE, AV.lt], take_own 2⟩
     ·(try rw [h10]); (try simp only [decide_eq_true_eq, decide_eq_false_iff_not, Bool.not_eq_true', Bool.not_eq_false', Int.not_lt, Int.not_le, Bool.not_true, Bool.not_false, Int.toNat_natCast, tn1, tn2, tm1, tnn, bne_iff_ne, beq_iff_eq, beq_eq_false_iff_ne, ne_eq, Decidable.not_not] at h10)
      refine zw2 ?_
      refine AWp_cond rfl (fun h11 => ?_) (fun h11 => ?_)
      ·(try rw [h11]); (try simp only [decide_eq_true_eq, decide_eq_false_iff_not, Bool.not_eq_true', Bool.not_eq_false', Int.not_lt, Int.not_le, Bool.not_true, Bool.not_false, Int.toNat_natCast, tn1, tn2, tm1, tnn, bne_iff_ne, beq_iff_eq, beq_eq_false_iff_ne, ne_eq, Decidable.not_not] at h11)
       refine AWp_regL ?_
       refine zv1 ?_
       refine AWp_regL ?_
       refine zv3 ?_
       first | (exfalso; omega; done) | exact ⟨(i + 1, ⟨ng, true, pt, true, d, b, x⟩), σ.length + 2, ⟨by rw [← hq1]; exact (nl1 (by omega) (by omega)).symm, by simp only; omega, by simp only; omega, by simp only [ByteArray.size_append]; omega, by simp only; omega, by simp only; omega⟩, by simp only; omega, by simp, ⟨rfl, rfl, rfl, rfl, rfl, rfl, rfl, rfl, rfl, rfl, rfl, trivial⟩, closed_own 2 hcl (by simp [ownLt, AO.cells, AV.ltL, AV.lt]), by simp [ltE, AV.lt], take_own 2⟩ | exact ⟨(i + 1, ⟨ng, dn, pt, true, d, b, min (10 * x + (bat s i).toNat - 48) 1000000⟩), σ.length + 2, ⟨by rw [← hq1]; exact (nl2 (by omega) (by omega)).symm, by simp only; omega, by simp only; omega, by simp only [ByteArray.size_append]; omega, by simp only; omega, by simp only; omega⟩, by simp only; omega, by simp, ⟨rfl, rfl, rfl, rfl, rfl, rfl, rfl, rfl, rfl, rfl, rfl, trivial⟩, closed_own 2 hcl (by simp [ownLt, AO.cells, AV.ltL, AV.lt]), by simp [ltE, AV.lt], take_own 2⟩ | exact ⟨(i + 1, ⟨ng, dn, pt, true, d, b, x⟩), σ.length + 2, ⟨by rw [← hq1]; exact (nl3 (by omega) (by omega) (by omega)).symm, by simp only; omega, by simp only; omega, by simp only [ByteArray.size_append]; omega, by simp only; omega, by simp only; omega⟩, by simp only; omega, by simp, ⟨rfl, rfl, rfl, rfl, rfl, rfl, rfl, rfl, rfl, rfl, rfl, trivial⟩, closed_own 2 hcl (by simp [ownLt, AO.cells, AV.ltL, AV.lt]), by simp [ltE, AV.lt], take_own 2⟩ | exact ⟨(i + 1, ⟨true, dn, pt, false, d, b, x⟩), σ.length + 2, ⟨by rw [← hq1]; exact (nl4 (by omega) (by omega)).symm, by simp only; omega, by simp only; omega, by simp only [ByteArray.size_append]; omega, by simp only; omega, by simp only; omega⟩, by simp only; omega, by simp, ⟨rfl, rfl, rfl, rfl, rfl, rfl, rfl, rfl, rfl, rfl, rfl, trivial⟩, closed_own 2 hcl (by simp [ownLt, AO.cells, AV.ltL, AV.lt]), by simp [ltE, AV.lt], take_own 2⟩ | exact ⟨(i + 1, ⟨ng, dn, true, false, d, b, x⟩), σ.length + 2, ⟨by rw [← hq1]; exact (nl5 (by omega) (by omega)).symm, by simp only; omega, by simp only; omega, by simp only [ByteArray.size_append]; omega, by simp only; omega, by simp only; omega⟩, by simp only; omega, by simp, ⟨rfl, rfl, rfl, rfl, rfl, rfl, rfl, rfl, rfl, rfl, rfl, trivial⟩, closed_own 2 hcl (by simp [ownLt, AO.cells, AV.ltL, AV.lt]), by simp [ltE, AV.lt], take_own 2⟩ | exact ⟨(i + 1, ⟨ng, dn, pt, true, d, b, x⟩), σ.length + 2, ⟨by rw [← hq1]; exact (nl6 (by omega) (by omega)).symm, by simp only; omega, by simp only; omega, by simp only [ByteArray.size_append]; omega, by simp only; omega, by simp only; omega⟩, by simp only; omega, by simp, ⟨rfl, rfl, rfl, rfl, rfl, rfl, rfl, rfl, rfl, rfl, rfl, trivial⟩, closed_own 2 hcl (by simp [ownLt, AO.cells, AV.ltL, AV.lt]), by simp [ltE, AV.lt], take_own 2⟩ | exact ⟨(i + 1, ⟨ng, dn, true, false, d ++ ⟨#[u8b ((bat s i).toNat : Int)]⟩, b + 1, x⟩), σ.length + 2, ⟨by rw [← hq1]; exact (nl7 (by omega) (by omega) (by omega) (by omega)).symm, by simp only; omega, by simp only; omega, by simp only [ByteArray.size_append]; omega, by simp only; omega, by simp only; omega⟩, by simp only; omega, by simp, ⟨rfl, rfl, rfl, rfl, rfl, rfl, rfl, rfl, rfl, rfl, rfl, trivial⟩, closed_own 2 hcl (by simp [ownLt, AO.cells, AV.ltL, AV.lt]), by simp [ltE, AV.lt], take_own 2⟩ | exact ⟨(i + 1, ⟨ng, dn, false, false, d ++ ⟨#[u8b ((bat s i).toNat : Int)]⟩, b, x⟩), σ.length + 2, ⟨by rw [← hq1]; exact (nl8 (by omega) (by omega) (by omega) (by omega)).symm, by simp only; omega, by simp only; omega, by simp only [ByteArray.size_append]; omega, by simp only; omega, by simp only; omega⟩, by simp only; omega, by simp, ⟨rfl, rfl, rfl, rfl, rfl, rfl, rfl, rfl, rfl, rfl, rfl, trivial⟩, closed_own 2 hcl (by simp [ownLt, AO.cells, AV.ltL, AV.lt]), by simp [ltE, AV.lt], take_own 2⟩
      ·(try rw [h11]); (try simp only [decide_eq_true_eq, decide_eq_false_iff_not, Bool.not_eq_true', Bool.not_eq_false', Int.not_lt, Int.not_le, Bool.not_true, Bool.not_false, Int.toNat_natCast, tn1, tn2, tm1, tnn, bne_iff_ne, beq_iff_eq, beq_eq_false_iff_ne, ne_eq, Decidable.not_not] at h11)
       refine zu3 ?_
       refine zsp 64 rfl (fun h12 => ?_) fun h12 => ?_
       ·rw [h12]; (try simp only [decide_eq_true_eq, decide_eq_false_iff_not, Bool.not_eq_true', Bool.not_eq_false', Int.not_lt, Int.not_le, Bool.not_true, Bool.not_false, Int.toNat_natCast, tn1, tn2, tm1, tnn, bne_iff_ne, beq_iff_eq, beq_eq_false_iff_ne, ne_eq, Decidable.not_not] at h12)
        refine zv3 ?_
        refine AWp_condT rfl ?_
        refine AWp_regL ?_
        refine zv1 ?_
        refine AWp_regL ?_
        refine zv3 ?_
        first | (exfalso; omega; done) | exact ⟨(i + 1, ⟨ng, true, pt, true, d, b, x⟩), σ.length + 2, ⟨by rw [← hq1]; exact (nl1 (by omega) (by omega)).symm, by simp only; omega, by simp only; omega, by simp only [ByteArray.size_append]; omega, by simp only; omega, by simp only; omega⟩, by simp only; omega, by simp, ⟨rfl, rfl, rfl, rfl, rfl, rfl, rfl, rfl, rfl, rfl, rfl, trivial⟩, closed_own 2 hcl (by simp [ownLt, AO.cells, AV.ltL, AV.lt]), by simp [ltE, AV.lt], take_own 2⟩ | exact ⟨(i + 1, ⟨ng, dn, pt, true, d, b, min (10 * x + (bat s i).toNat - 48) 1000000⟩), σ.length + 2, ⟨by rw [← hq1]; exact (nl2 (by omega) (by omega)).symm, by simp only; omega, by simp only; omega, by simp only [ByteArray.size_append]; omega, by simp only; omega, by simp only; omega⟩, by simp only; omega, by simp, ⟨rfl, rfl, rfl, rfl, rfl, rfl, rfl, rfl, rfl, rfl, rfl, trivial⟩, closed_own 2 hcl (by simp [ownLt, AO.cells, AV.ltL, AV.lt]), by simp [ltE, AV.lt], take_own 2⟩ | exact ⟨(i + 1, ⟨ng, dn, pt, true, d, b, x⟩), σ.length + 2, ⟨by rw [← hq1]; exact (nl3 (by omega) (by omega) (by omega)).symm, by simp only; omega, by simp only; omega, by simp only [ByteArray.size_append]; omega, by simp only; omega, by simp only; omega⟩, by simp only; omega, by simp, ⟨rfl, rfl, rfl, rfl, rfl, rfl, rfl, rfl, rfl, rfl, rfl, trivial⟩, closed_own 2 hcl (by simp [ownLt, AO.cells, AV.ltL, AV.lt]), by simp [ltE, AV.lt], take_own 2⟩ | exact ⟨(i + 1, ⟨true, dn, pt, false, d, b, x⟩), σ.length + 2, ⟨by rw [← hq1]; exact (nl4 (by omega) (by omega)).symm, by simp only; omega, by simp only; omega, by simp only [ByteArray.size_append]; omega, by simp only; omega, by simp only; omega⟩, by simp only; omega, by simp, ⟨rfl, rfl, rfl, rfl, rfl, rfl, rfl, rfl, rfl, rfl, rfl, trivial⟩, closed_own 2 hcl (by simp [ownLt, AO.cells, AV.ltL, AV.lt]), by simp [ltE, AV.lt], take_own 2⟩ | exact ⟨(i + 1, ⟨ng, dn, true, false, d, b, x⟩), σ.length + 2, ⟨by rw [← hq1]; exact (nl5 (by omega) (by omega)).symm, by simp only; omega, by simp only; omega, by simp only [ByteArray.size_append]; omega, by simp only; omega, by simp only; omega⟩, by simp only; omega, by simp, ⟨rfl, rfl, rfl, rfl, rfl, rfl, rfl, rfl, rfl, rfl, rfl, trivial⟩, closed_own 2 hcl (by simp [ownLt, AO.cells, AV.ltL, AV.lt]), by simp [ltE, AV.lt], take_own 2⟩ | exact ⟨(i + 1, ⟨ng, dn, pt, true, d, b, x⟩), σ.length + 2, ⟨by rw [← hq1]; exact (nl6 (by omega) (by omega)).symm, by simp only; omega, by simp only; omega, by simp only [ByteArray.size_append]; omega, by simp only; omega, by simp only; omega⟩, by simp only; omega, by simp, ⟨rfl, rfl, rfl, rfl, rfl, rfl, rfl, rfl, rfl, rfl, rfl, trivial⟩, closed_own 2 hcl (by simp [ownLt, AO.cells, AV.ltL, AV.lt]), by simp [ltE, AV.lt], take_own 2⟩ | exact ⟨(i + 1, ⟨ng, dn, true, false, d ++ ⟨#[u8b ((bat s i).toNat : Int)]⟩, b + 1, x⟩), σ.length + 2, ⟨by rw [← hq1]; exact (nl7 (by omega) (by omega) (by omega) (by omega)).symm, by simp only; omega, by simp only; omega, by simp only [ByteArray.size_append]; omega, by simp only; omega, by simp only; omega⟩, by simp only; omega, by simp, ⟨rfl, rfl, rfl, rfl, rfl, rfl, rfl, rfl, rfl, rfl, rfl, trivial⟩, closed_own 2 hcl (by simp [ownLt, AO.cells, AV.ltL, AV.lt]), by simp [ltE, AV.lt], take_own 2⟩ | exact ⟨(i + 1, ⟨ng, dn, false, false, d ++ ⟨#[u8b ((bat s i).toNat : Int)]⟩, b, x⟩), σ.length + 2, ⟨by rw [← hq1]; exact (nl8 (by omega) (by omega) (by omega) (by omega)).symm, by simp only; omega, by simp only; omega, by simp only [ByteArray.size_append]; omega, by simp only; omega, by simp only; omega⟩, by simp only; omega, by simp, ⟨rfl, rfl, rfl, rfl, rfl, rfl, rfl, rfl, rfl, rfl, rfl, trivial⟩, closed_own 2 hcl (by simp [ownLt, AO.cells, AV.ltL, AV.lt]), by simp [ltE, AV.lt], take_own 2⟩
       ·rw [h12]; (try simp only [decide_eq_true_eq, decide_eq_false_iff_not, Bool.not_eq_true', Bool.not_eq_false', Int.not_lt, Int.not_le, Bool.not_true, Bool.not_false, Int.toNat_natCast, tn1, tn2, tm1, tnn, bne_iff_ne, beq_iff_eq, beq_eq_false_iff_ne, ne_eq, Decidable.not_not] at h12)
        refine zv3 ?_
        refine AWp_cond rfl (fun h13 => ?_) (fun h13 => ?_)
        ·(try rw [h13]); (try simp only [decide_eq_true_eq, decide_eq_false_iff_not, Bool.not_eq_true', Bool.not_eq_false', Int.not_lt, Int.not_le, Bool.not_true, Bool.not_false, Int.toNat_natCast, tn1, tn2, tm1, tnn, bne_iff_ne, beq_iff_eq, beq_eq_false_iff_ne, ne_eq, Decidable.not_not] at h13)
         refine AWp_regL ?_
         refine zv1 ?_
         refine AWp_regL ?_
         refine zv3 ?_
         first | (exfalso; omega; done) | exact ⟨(i + 1, ⟨ng, true, pt, true, d, b, x⟩), σ.length + 2, ⟨by rw [← hq1]; exact (nl1 (by omega) (by omega)).symm, by simp only; omega, by simp only; omega, by simp only [ByteArray.size_append]; omega, by simp only; omega, by simp only; omega⟩, by simp only; omega, by simp, ⟨rfl, rfl, rfl, rfl, rfl, rfl, rfl, rfl, rfl, rfl, rfl, trivial⟩, closed_own 2 hcl (by simp [ownLt, AO.cells, AV.ltL, AV.lt]), by simp [ltE, AV.lt], take_own 2⟩ | exact ⟨(i + 1, ⟨ng, dn, pt, true, d, b, min (10 * x + (bat s i).toNat - 48) 1000000⟩), σ.length + 2, ⟨by rw [← hq1]; exact (nl2 (by omega) (by omega)).symm, by simp only; omega, by simp only; omega, by simp only [ByteArray.size_append]; omega, by simp only; omega, by simp only; omega⟩, by simp only; omega, by simp, ⟨rfl, rfl, rfl, rfl, rfl, rfl, rfl, rfl, rfl, rfl, rfl, trivial⟩, closed_own 2 hcl (by simp [ownLt, AO.cells, AV.ltL, AV.lt]), by simp [ltE, AV.lt], take_own 2⟩ | exact ⟨(i + 1, ⟨ng, dn, pt, true, d, b, x⟩), σ.length + 2, ⟨by rw [← hq1]; exact (nl3 (by omega) (by omega) (by omega)).symm, by simp only; omega, by simp only; omega, by simp only [ByteArray.size_append]; omega, by simp only; omega, by simp only; omega⟩, by simp only; omega, by simp, ⟨rfl, rfl, rfl, rfl, rfl, rfl, rfl, rfl, rfl, rfl, rfl, trivial⟩, closed_own 2 hcl (by simp [ownLt, AO.cells, AV.ltL, AV.lt]), by simp [ltE, AV.lt], take_own 2⟩ | exact ⟨(i + 1, ⟨true, dn, pt, false, d, b, x⟩), σ.length + 2, ⟨by rw [← hq1]; exact (nl4 (by omega) (by omega)).symm, by simp only; omega, by simp only; omega, by simp only [ByteArray.size_append]; omega, by simp only; omega, by simp only; omega⟩, by simp only; omega, by simp, ⟨rfl, rfl, rfl, rfl, rfl, rfl, rfl, rfl, rfl, rfl, rfl, trivial⟩, closed_own 2 hcl (by simp [ownLt, AO.cells, AV.ltL, AV.lt]), by simp [ltE, AV.lt], take_own 2⟩ | exact ⟨(i + 1, ⟨ng, dn, true, false, d, b, x⟩), σ.length + 2, ⟨by rw [← hq1]; exact (nl5 (by omega) (by omega)).symm, by simp only; omega, by simp only; omega, by simp only [ByteArray.size_append]; omega, by simp only; omega, by simp only; omega⟩, by simp only; omega, by simp, ⟨rfl, rfl, rfl, rfl, rfl, rfl, rfl, rfl, rfl, rfl, rfl, trivial⟩, closed_own 2 hcl (by simp [ownLt, AO.cells, AV.ltL, AV.lt]), by simp [ltE, AV.lt], take_own 2⟩ | exact ⟨(i + 1, ⟨ng, dn, pt, true, d, b, x⟩), σ.length + 2, ⟨by rw [← hq1]; exact (nl6 (by omega) (by omega)).symm, by simp only; omega, by simp only; omega, by simp only [ByteArray.size_append]; omega, by simp only; omega, by simp only; omega⟩, by simp only; omega, by simp, ⟨rfl, rfl, rfl, rfl, rfl, rfl, rfl, rfl, rfl, rfl, rfl, trivial⟩, closed_own 2 hcl (by simp [ownLt, AO.cells, AV.ltL, AV.lt]), by simp [ltE, AV.lt], take_own 2⟩ | exact ⟨(i + 1, ⟨ng, dn, true, false, d ++ ⟨#[u8b ((bat s i).toNat : Int)]⟩, b + 1, x⟩), σ.length + 2, ⟨by rw [← hq1]; exact (nl7 (by omega) (by omega) (by omega) (by omega)).symm, by simp only; omega, by simp only; omega, by simp only [ByteArray.size_append]; omega, by simp only; omega, by simp only; omega⟩, by simp only; omega, by simp, ⟨rfl, rfl, rfl, rfl, rfl, rfl, rfl, rfl, rfl, rfl, rfl, trivial⟩, closed_own 2 hcl (by simp [ownLt, AO.cells, AV.ltL, AV.lt]), by simp [ltE, AV.lt], take_own 2⟩ | exact ⟨(i + 1, ⟨ng, dn, false, false, d ++ ⟨#[u8b ((bat s i).toNat : Int)]⟩, b, x⟩), σ.length + 2, ⟨by rw [← hq1]; exact (nl8 (by omega) (by omega) (by omega) (by omega)).symm, by simp only; omega, by simp only; omega, by simp only [ByteArray.size_append]; omega, by simp only; omega, by simp only; omega⟩, by simp only; omega, by simp, ⟨rfl, rfl, rfl, rfl, rfl, rfl, rfl, rfl, rfl, rfl, rfl, trivial⟩, closed_own 2 hcl (by simp [ownLt, AO.cells, AV.ltL, AV.lt]), by simp [ltE, AV.lt], take_own 2⟩
        ·(try rw [h13]); (try simp only [decide_eq_true_eq, decide_eq_false_iff_not, Bool.not_eq_true', Bool.not_eq_false', Int.not_lt, Int.not_le, Bool.not_true, Bool.not_false, Int.toNat_natCast, tn1, tn2, tm1, tnn, bne_iff_ne, beq_iff_eq, beq_eq_false_iff_ne, ne_eq, Decidable.not_not] at h13)
         refine zu2 ?_
         refine zt rfl (op_buildSlice [[_]] rfl Tryz.underlying146 Tryz.sizeOf5 Tryz.zeroValue5 rfl (by decide) (by decide) rfl rfl rfl rfl rfl) ?_
         refine zt rfl (op_bytesStr (b := _) (m := 1) rfl Tryz.underlying146 Tryz.underlying5 Tryz.underlying9 (bs1 ⟨by omega, by omega⟩) rfl rfl) ?_
         refine zv2 ?_
         refine zw1 ?_
         refine AWp_cond rfl (fun h14 => ?_) (fun h14 => ?_)
         ·(try rw [h14]); (try simp only [decide_eq_true_eq, decide_eq_false_iff_not, Bool.not_eq_true', Bool.not_eq_false', Int.not_lt, Int.not_le, Bool.not_true, Bool.not_false, Int.toNat_natCast, tn1, tn2, tm1, tnn, bne_iff_ne, beq_iff_eq, beq_eq_false_iff_ne, ne_eq, Decidable.not_not] at h14)
          subst h14
          refine AWp_regL ?_
          refine zv3 ?_
          refine AWp_regL ?_
          refine zv3 ?_
          first | (exfalso; omega; done) | exact ⟨(i + 1, ⟨ng, true, pt, true, d, b, x⟩), σ.length + 2, ⟨by rw [← hq1]; exact (nl1 (by omega) (by omega)).symm, by simp only; omega, by simp only; omega, by simp only [ByteArray.size_append]; omega, by simp only; omega, by simp only; omega⟩, by simp only; omega, by simp, ⟨rfl, rfl, rfl, rfl, rfl, rfl, rfl, rfl, rfl, rfl, rfl, trivial⟩, closed_own 2 hcl (by simp [ownLt, AO.cells, AV.ltL, AV.lt]), by simp [ltE, AV.lt], take_own 2⟩ | exact ⟨(i + 1, ⟨ng, dn, pt, true, d, b, min (10 * x + (bat s i).toNat - 48) 1000000⟩), σ.length + 2, ⟨by rw [← hq1]; exact (nl2 (by omega) (by omega)).symm, by simp only; omega, by simp only; omega, by simp only [ByteArray.size_append]; omega, by simp only; omega, by simp only; omega⟩, by simp only; omega, by simp, ⟨rfl, rfl, rfl, rfl, rfl, rfl, rfl, rfl, rfl, rfl, rfl, trivial⟩, closed_own 2 hcl (by simp [ownLt, AO.cells, AV.ltL, AV.lt]), by simp [ltE, AV.lt], take_own 2⟩ | exact ⟨(i + 1, ⟨ng, dn, pt, true, d, b, x⟩), σ.length + 2, ⟨by rw [← hq1]; exact (nl3 (by omega) (by omega) (by omega)).symm, by simp only; omega, by simp only; omega, by simp only [ByteArray.size_append]; omega, by simp only; omega, by simp only; omega⟩, by simp only; omega, by simp, ⟨rfl, rfl, rfl, rfl, rfl, rfl, rfl, rfl, rfl, rfl, rfl, trivial⟩, closed_own 2 hcl (by simp [ownLt, AO.cells, AV.ltL, AV.lt]), by simp [ltE, AV.lt], take_own 2⟩ | exact ⟨(i + 1, ⟨true, dn, pt, false, d, b, x⟩), σ.length + 2, ⟨by rw [← hq1]; exact (nl4 (by omega) (by omega)).symm, by simp only; omega, by simp only; omega, by simp only [ByteArray.size_append]; omega, by simp only; omega, by simp only; omega⟩, by simp only; omega, by simp, ⟨rfl, rfl, rfl, rfl, rfl, rfl, rfl, rfl, rfl, rfl, rfl, trivial⟩, closed_own 2 hcl (by simp [ownLt, AO.cells, AV.ltL, AV.lt]), by simp [ltE, AV.lt], take_own 2⟩ | exact ⟨(i + 1, ⟨ng, dn, true, false, d, b, x⟩), σ.length + 2, ⟨by rw [← hq1]; exact (nl5 (by omega) (by omega)).symm, by simp only; omega, by simp only; omega, by simp only [ByteArray.size_append]; omega, by simp only; omega, by simp only; omega⟩, by simp only; omega, by simp, ⟨rfl, rfl, rfl, rfl, rfl, rfl, rfl, rfl, rfl, rfl, rfl, trivial⟩, closed_own 2 hcl (by simp [ownLt, AO.cells, AV.ltL, AV.lt]), by simp [ltE, AV.lt], take_own 2⟩ | exact ⟨(i + 1, ⟨ng, dn, pt, true, d, b, x⟩), σ.length + 2, ⟨by rw [← hq1]; exact (nl6 (by omega) (by omega)).symm, by simp only; omega, by simp only; omega, by simp only [ByteArray.size_append]; omega, by simp only; omega, by simp only; omega⟩, by simp only; omega, by simp, ⟨rfl, rfl, rfl, rfl, rfl, rfl, rfl, rfl, rfl, rfl, rfl, trivial⟩, closed_own 2 hcl (by simp [ownLt, AO.cells, AV.ltL, AV.lt]), by simp [ltE, AV.lt], take_own 2⟩ | exact ⟨(i + 1, ⟨ng, dn, true, false, d ++ ⟨#[u8b ((bat s i).toNat : Int)]⟩, b + 1, x⟩), σ.length + 2, ⟨by rw [← hq1]; exact (nl7 (by omega) (by omega) (by omega) (by omega)).symm, by simp only; omega, by simp only; omega, by simp only [ByteArray.size_append]; omega, by simp only; omega, by simp only; omega⟩, by simp only; omega, by simp, ⟨rfl, rfl, rfl, rfl, rfl, rfl, rfl, rfl, rfl, rfl, rfl, trivial⟩, closed_own 2 hcl (by simp [ownLt, AO.cells, AV.ltL, AV.lt]), by simp [ltE, AV.lt], take_own 2⟩ | exact ⟨(i + 1, ⟨ng, dn, false, false, d ++ ⟨#[u8b ((bat s i).toNat : Int)]⟩, b, x⟩), σ.length + 2, ⟨by rw [← hq1]; exact (nl8 (by omega) (by omega) (by omega) (by omega)).symm, by simp only; omega, by simp only; omega, by simp only [ByteArray.size_append]; omega, by simp only; omega, by simp only; omega⟩, by simp only; omega, by simp, ⟨rfl, rfl, rfl, rfl, rfl, rfl, rfl, rfl, rfl, rfl, rfl, trivial⟩, closed_own 2 hcl (by simp [ownLt, AO.cells, AV.ltL, AV.lt]), by simp [ltE, AV.lt], take_own 2⟩
         ·(try rw [h14]); (try simp only [decide_eq_true_eq, decide_eq_false_iff_not, Bool.not_eq_true', Bool.not_eq_false', Int.not_lt, Int.not_le, Bool.not_true, Bool.not_false, Int.toNat_natCast, tn1, tn2, tm1, tnn, bne_iff_ne, beq_iff_eq, beq_eq_false_iff_ne, ne_eq, Decidable.not_not] at h14)
          subst h14
          refine AWp_skip ?_
          refine AWp_regL ?_
          refine zv3 ?_
          first | (exfalso; omega; done) | exact ⟨(i + 1, ⟨ng, true, pt, true, d, b, x⟩), σ.length + 2, ⟨by rw [← hq1]; exact (nl1 (by omega) (by omega)).symm, by simp only; omega, by simp only; omega, by simp only [ByteArray.size_append]; omega, by simp only; omega, by simp only; omega⟩, by simp only; omega, by simp, ⟨rfl, rfl, rfl, rfl, rfl, rfl, rfl, rfl, rfl, rfl, rfl, trivial⟩, closed_own 2 hcl (by simp [ownLt, AO.cells, AV.ltL, AV.lt]), by simp [ltE, AV.lt], take_own 2⟩ | exact ⟨(i + 1, ⟨ng, dn, pt, true, d, b, min (10 * x + (bat s i).toNat - 48) 1000000⟩), σ.length + 2, ⟨by rw [← hq1]; exact (nl2 (by omega) (by omega)).symm, by simp only; omega, by simp only; omega, by simp only [ByteArray.size_append]; omega, by simp only; omega, by simp only; omega⟩, by simp only; omega, by simp, ⟨rfl, rfl, rfl, rfl, rfl, rfl, rfl, rfl, rfl, rfl, rfl, trivial⟩, closed_own 2 hcl (by simp [ownLt, AO.cells, AV.ltL, AV.lt]), by simp [ltE, AV.lt], take_own 2⟩ | exact ⟨(i + 1, ⟨ng, dn, pt, true, d, b, x⟩), σ.length + 2, ⟨by rw [← hq1]; exact (nl3 (by omega) (by omega) (by omega)).symm, by simp only; omega, by simp only; omega, by simp only [ByteArray.size_append]; omega, by simp only; omega, by simp only; omega⟩, by simp only; omega, by simp, ⟨rfl, rfl, rfl, rfl, rfl, rfl, rfl, rfl, rfl, rfl, rfl, trivial⟩, closed_own 2 hcl (by simp [ownLt, AO.cells, AV.ltL, AV.lt]), by simp [ltE, AV.lt], take_own 2⟩ | exact ⟨(i + 1, ⟨true, dn, pt, false, d, b, x⟩), σ.length + 2, ⟨by rw [← hq1]; exact (nl4 (by omega) (by omega)).symm, by simp only; omega, by simp only; omega, by simp only [ByteArray.size_append]; omega, by simp only; omega, by simp only; omega⟩, by simp only; omega, by simp, ⟨rfl, rfl, rfl, rfl, rfl, rfl, rfl, rfl, rfl, rfl, rfl, trivial⟩, closed_own 2 hcl (by simp [ownLt, AO.cells, AV.ltL, AV.lt]), by simp [ltE, AV.lt], take_own 2⟩ | exact ⟨(i + 1, ⟨ng, dn, true, false, d, b, x⟩), σ.length + 2, ⟨by rw [← hq1]; exact (nl5 (by omega) (by omega)).symm, by simp only; omega, by simp only; omega, by simp only [ByteArray.size_append]; omega, by simp only; omega, by simp only; omega⟩, by simp only; omega, by simp, ⟨rfl, rfl, rfl, rfl, rfl, rfl, rfl, rfl, rfl, rfl, rfl, trivial⟩, closed_own 2 hcl (by simp [ownLt, AO.cells, AV.ltL, AV.lt]), by simp [ltE, AV.lt], take_own 2⟩ | exact ⟨(i + 1, ⟨ng, dn, pt, true, d, b, x⟩), σ.length + 2, ⟨by rw [← hq1]; exact (nl6 (by omega) (by omega)).symm, by simp only; omega, by simp only; omega, by simp only [ByteArray.size_append]; omega, by simp only; omega, by simp only; omega⟩, by simp only; omega, by simp, ⟨rfl, rfl, rfl, rfl, rfl, rfl, rfl, rfl, rfl, rfl, rfl, trivial⟩, closed_own 2 hcl (by simp [ownLt, AO.cells, AV.ltL, AV.lt]), by simp [ltE, AV.lt], take_own 2⟩ | exact ⟨(i + 1, ⟨ng, dn, true, false, d ++ ⟨#[u8b ((bat s i).toNat : Int)]⟩, b + 1, x⟩), σ.length + 2, ⟨by rw [← hq1]; exact (nl7 (by omega) (by omega) (by omega) (by omega)).symm, by simp only; omega, by simp only; omega, by simp only [ByteArray.size_append]; omega, by simp only; omega, by simp only; omega⟩, by simp only; omega, by simp, ⟨rfl, rfl, rfl, rfl, rfl, rfl, rfl, rfl, rfl, rfl, rfl, trivial⟩, closed_own 2 hcl (by simp [ownLt, AO.cells, AV.ltL, AV.lt]), by simp [ltE, AV.lt], take_own 2⟩ | exact ⟨(i + 1, ⟨ng, dn, false, false, d ++ ⟨#[u8b ((bat s i).toNat : Int)]⟩, b, x⟩), σ.length + 2, ⟨by rw [← hq1]; exact (nl8 (by omega) (by omega) (by omega) (by omega)).symm, by simp only; omega, by simp only; omega, by simp only [ByteArray.size_append]; omega, by simp only; omega, by simp only; omega⟩, by simp only; omega, by simp, ⟨rfl, rfl, rfl, rfl, rfl, rfl, rfl, rfl, rfl, rfl, rfl, trivial⟩, closed_own 2 hcl (by simp [ownLt, AO.cells, AV.ltL, AV.lt]), by simp [ltE, AV.lt], take_own 2⟩
   ·(try rw [h3]); (try simp only [decide_eq_true_eq, decide_eq_false_iff_not, Bool.not_eq_true', Bool.not_eq_false', Int.not_lt, Int.not_le, Bool.not_true, Bool.not_false, Int.toNat_natCast, tn1, tn2, tm1, tnn, bne_iff_ne, beq_iff_eq, beq_eq_false_iff_ne, ne_eq, Decidable.not_not] at h3)
    have ht : nloop s 0 nst0 = ⟨ng, dn, pt, pw, d, b, x⟩ := by rw [← hq1]; exact nl0 (by omega)
    refine AWp_exit ?_
    refine AWp_join (ι := Int) (fun xx => xx = nsgn ⟨ng, dn, pt, pw, d, b, x⟩ ∧ -1000000 ≤ xx ∧ xx ≤ 1000000) (fun xx => ⟨[], [(2, .ptr (σ.length + 0) 0), (6, .ptr (σ.length + 1) 0), (7, .str d), (8, .int .i64 b), (10, .int .i64 xx)]⟩) (fun xx => σ ++ [.box [.bool false, .str e0, .int .i64 0], .box [.bool ng, .str e0, .int .i64 0]]) ?_ (fun xx hj => ?_)
    ·skip
     refine zw1 ?_
     refine AWp_cond rfl (fun h15 => ?_) (fun h15 => ?_)
     ·(try rw [h15]); (try simp only [decide_eq_true_eq, decide_eq_false_iff_not, Bool.not_eq_true', Bool.not_eq_false', Int.not_lt, Int.not_le, Bool.not_true, Bool.not_false, Int.toNat_natCast, tn1, tn2, tm1, tnn, bne_iff_ne, beq_iff_eq, beq_eq_false_iff_ne, ne_eq, Decidable.not_not] at h15)
      subst h15
      refine AWp_regL ?_
      refine zg1 ?_
      refine zt rfl (op_neg64 rfl rfl (by omega) (by omega)) ?_
      refine zv1 ?_
      first | exact ⟨-x, ⟨by simp [nsgn], by omega, by omega⟩, ⟨rfl, rfl, rfl, rfl, rfl, rfl, trivial⟩, rfl⟩ | exact ⟨x, ⟨by simp [nsgn], by omega, by omega⟩, ⟨rfl, rfl, rfl, rfl, rfl, rfl, trivial⟩, rfl⟩
     ·(try rw [h15]); (try simp only [decide_eq_true_eq, decide_eq_false_iff_not, Bool.not_eq_true', Bool.not_eq_false', Int.not_lt, Int.not_le, Bool.not_true, Bool.not_false, Int.toNat_natCast, tn1, tn2, tm1, tnn, bne_iff_ne, beq_iff_eq, beq_eq_false_iff_ne, ne_eq, Decidable.not_not] at h15)
      subst h15
      refine AWp_skip ?_
      first | exact ⟨-x, ⟨by simp [nsgn], by omega, by omega⟩, ⟨rfl, rfl, rfl, rfl, rfl, rfl, trivial⟩, rfl⟩ | exact ⟨x, ⟨by simp [nsgn], by omega, by omega⟩, ⟨rfl, rfl, rfl, rfl, rfl, rfl, trivial⟩, rfl⟩
    ·skip
     obtain ⟨hx1, hx2, hx3⟩ := hj
     refine zw4 ?_
     refine zw1 ?_
     refine AWp_seq ?_
     refine AWp_block ?_
     -- loop 1 LIVE 2:alloc 3:assign 6:alloc 7:assign 10:assign 15:assign
     refine AWp_loop (ι := Nat) (fun f => fz d f = fz d 0 ∧ f ≤ d.size) (fun f => ⟨[], [(2, .ptr (σ.length + 0) 0), (6, .ptr (σ.length + 1) 0), (7, .str d), (10, .int .i64 (xx - b)), (15, .int .i64 (f : Int))]⟩) (fun f => σ ++ [_, _]) (fun f => d.size - f) (0) (⟨rfl, Nat.zero_le _⟩) ?_ rfl (fun f hf => ?_)
     ·exact ⟨rfl, rfl, rfl, rfl, rfl, rfl, trivial⟩
     obtain ⟨hf1, hf2⟩ := hf
     refine AWp_seq ?_
     refine zu5 ?_
     refine zsp 86 rfl (fun h16 => ?_) fun h16 => ?_
     ·rw [h16]; (try simp only [decide_eq_true_eq, decide_eq_false_iff_not, Bool.not_eq_true', Bool.not_eq_false', Int.not_lt, Int.not_le, Bool.not_true, Bool.not_false, Int.toNat_natCast, tn1, tn2, tm1, tnn, bne_iff_ne, beq_iff_eq, beq_eq_false_iff_ne, ne_eq, Decidable.not_not] at h16)
      refine zv5 ?_
      refine AWp_cond rfl (fun h17 => ?_) (fun h17 => ?_)
      ·(try rw [h17]); (try simp only [decide_eq_true_eq, decide_eq_false_iff_not, Bool.not_eq_true', Bool.not_eq_false', Int.not_lt, Int.not_le, Bool.not_true, Bool.not_false, Int.toNat_natCast, tn1, tn2, tm1, tnn, bne_iff_ne, beq_iff_eq, beq_eq_false_iff_ne, ne_eq, Decidable.not_not] at h17)
       refine AWp_skip ?_
       refine AWp_block ?_
       refine AWp_regL ?_
       refine zv3 ?_
       exact ⟨f + 1, σ.length + 2, ⟨by rw [← hf1]; exact (fz_yes (by omega) (by omega)).symm, by omega⟩, by omega, by simp, ⟨rfl, rfl, rfl, rfl, rfl, rfl, trivial⟩, closed_own 2 hcl (by simp [ownLt, AO.cells, AV.ltL, AV.lt]), by simp [ltE, AV.lt], take_own 2⟩
      ·(try rw [h17]); (try simp only [decide_eq_true_eq, decide_eq_false_iff_not, Bool.not_eq_true', Bool.not_eq_false', Int.not_lt, Int.not_le, Bool.not_true, Bool.not_false, Int.toNat_natCast, tn1, tn2, tm1, tnn, bne_iff_ne, beq_iff_eq, beq_eq_false_iff_ne, ne_eq, Decidable.not_not] at h17)
       refine AWp_exit ?_
       refine zw3 ?_
       refine AWp_seq ?_
       refine AWp_block ?_
       -- loop 2 LIVE 2:alloc 3:assign 6:alloc 7:assign 10:assign 15:assign 16:assign
       have hff : fz d 0 = f := by rw [← hf1]; exact fz_no (by omega)
       refine AWp_loop (ι := Nat) (fun l => lz d f l = lz d f d.size ∧ f ≤ l ∧ l ≤ d.size) (fun l => ⟨[], [(2, .ptr (σ.length + 0) 0), (6, .ptr (σ.length + 1) 0), (7, .str d), (10, .int .i64 (xx - b + ((d.size : Int) - l))), (15, .int .i64 (f : Int)), (16, .int .i64 (l : Int))]⟩) (fun l => σ ++ [_, _]) (fun l => l) (d.size) (⟨rfl, hf2, Nat.le_refl _⟩) ?_ rfl (fun l hl => ?_)
       ·refine ⟨rfl, rfl, rfl, rfl, ?_, rfl, rfl, trivial⟩
        rw [Int.sub_self, Int.add_zero]; rfl
       obtain ⟨hl1, hl2, hl3⟩ := hl
       refine AWp_seq ?_
       refine zu4 ?_
       refine zsp 99 rfl (fun h18 => ?_) fun h18 => ?_
       ·rw [h18]; (try simp only [decide_eq_true_eq, decide_eq_false_iff_not, Bool.not_eq_true', Bool.not_eq_false', Int.not_lt, Int.not_le, Bool.not_true, Bool.not_false, Int.toNat_natCast, tn1, tn2, tm1, tnn, bne_iff_ne, beq_iff_eq, beq_eq_false_iff_ne, ne_eq, Decidable.not_not] at h18)
        refine zv6 ?_
        refine AWp_cond rfl (fun h19 => ?_) (fun h19 => ?_)
        ·(try rw [h19]); (try simp only [decide_eq_true_eq, decide_eq_false_iff_not, Bool.not_eq_true', Bool.not_eq_false', Int.not_lt, Int.not_le, Bool.not_true, Bool.not_false, Int.toNat_natCast, tn1, tn2, tm1, tnn, bne_iff_ne, beq_iff_eq, beq_eq_false_iff_ne, ne_eq, Decidable.not_not] at h19)
         refine AWp_skip ?_
         refine AWp_block ?_
         refine zw3 ?_
         refine AWp_regL ?_
         refine zv3 ?_
         refine ⟨l - 1, σ.length + 2, ⟨by rw [← hl1]; exact (lz_yes (by omega) (by omega)).symm, by omega⟩, by omega, by simp, ⟨rfl, rfl, rfl, rfl, ?_, rfl, ?_, trivial⟩, closed_own 2 hcl (by simp [ownLt, AO.cells, AV.ltL, AV.lt]), by simp [ltE, AV.lt], take_own 2⟩
         ·rw [show xx - b + ((d.size : Int) - ((l - 1 : Nat) : Int)) = xx - b + ((d.size : Int) - (l : Int)) + 1 by omega]; rfl
         ·rw [show ((l - 1 : Nat) : Int) = (l : Int) - 1 by omega]; rfl
        ·(try rw [h19]); (try simp only [decide_eq_true_eq, decide_eq_false_iff_not, Bool.not_eq_true', Bool.not_eq_false', Int.not_lt, Int.not_le, Bool.not_true, Bool.not_false, Int.toNat_natCast, tn1, tn2, tm1, tnn, bne_iff_ne, beq_iff_eq, beq_eq_false_iff_ne, ne_eq, Decidable.not_not] at h19)
         refine AWp_exit ?_
         refine AWp_seq ?_
         refine zsr ?_
         have hll : lz d f d.size = l := by rw [← hl1]; exact lz_no (by omega) hl2
         have hxs : (d.extract f l).size ≤ d.size := by rw [ByteArray.size_extract]; omega
         have hnf : nF ⟨ng, dn, pt, pw, d, b, x⟩ = f := hff
         have hnl : nL ⟨ng, dn, pt, pw, d, b, x⟩ = l := by unfold nL; rw [hnf]; exact hll
         have hof : nOf ⟨ng, dn, pt, pw, d, b, x⟩ = ⟨ng, d.extract f l, xx - b + ((d.size : Int) - l)⟩ := by unfold nOf; rw [hnf, hnl, ← hx1]
         refine zv3 ?_
         refine AWp_cond rfl (fun h20 => ?_) (fun h20 => ?_)
         ·(try rw [h20]); (try simp only [decide_eq_true_eq, decide_eq_false_iff_not, Bool.not_eq_true', Bool.not_eq_false', Int.not_lt, Int.not_le, Bool.not_true, Bool.not_false, Int.toNat_natCast, tn1, tn2, tm1, tnn, bne_iff_ne, beq_iff_eq, beq_eq_false_iff_ne, ne_eq, Decidable.not_not] at h20)
          refine zw3 ?_
          refine zrt ?_
          first | (exfalso; omega; done) | (have hE : rNum s = ({}, 0) := by unfold rNum; rw [if_neg (by simp [h1]; omega), ht, if_pos (by rw [hnf, hnl]; omega)]); rw [hE]; exact RQ_ret (rkvs_cons (rkv_ck rfl rfl rfl) (rkvs_cons (rkv_t rfl) rfl)) hcl (by simp [rks, AV.lt, AV.ltL, ofConst1, ncells]) (Ret_of rfl) | (have hE : rNum s = ({}, 5) := by unfold rNum; rw [if_neg (by simp [h1]; omega), ht, if_neg (by rw [hnf, hnl]; omega), if_neg (by rw [hof]; exact (pb_niff _).1 (by assumption))]); rw [hE]; exact RQ_ret (rkvs_cons (rkv_ck rfl rfl rfl) (rkvs_cons (rkv_t rfl) rfl)) hcl (by simp [rks, AV.lt, AV.ltL, ofConst1, ncells]) (Ret_of rfl) | (have hE : rNum s = (⟨ng, d.extract f l, xx - b + ((d.size : Int) - l)⟩, 0) := by unfold rNum; rw [if_neg (by simp [h1]; omega), ht, if_neg (by rw [hnf, hnl]; omega), if_pos (by rw [hof]; exact (pb_iff _).1 (by assumption)), hof]); rw [hE]; exact RQ_ret (rkvs_cons (rkv_ck rfl rfl rfl) (rkvs_cons (rkv_t rfl) rfl)) hcl (by simp [rks, AV.lt, AV.ltL, ofConst1, ncells]) (Ret_of rfl)
         ·(try rw [h20]); (try simp only [decide_eq_true_eq, decide_eq_false_iff_not, Bool.not_eq_true', Bool.not_eq_false', Int.not_lt, Int.not_le, Bool.not_true, Bool.not_false, Int.toNat_natCast, tn1, tn2, tm1, tnn, bne_iff_ne, beq_iff_eq, beq_eq_false_iff_ne, ne_eq, Decidable.not_not] at h20)
          refine AWp_skip ?_
          refine zu4 ?_
          simp only [Int.toNat_natCast]
          refine zg1 ?_
          refine ztN rfl rfl (op_storeO (r := [.bool ng, .str (d.extract f l), .int .i64 0]) rfl Tryz.sizeOf9 rfl rfl rfl rfl rfl (by decide)) ?_
          refine zon ?_
          refine zu2 ?_
          refine ztN rfl rfl (op_storeO (r := [.bool ng, .str (d.extract f l), .int .i64 (xx - b + ((d.size : Int) - l))]) rfl Tryz.sizeOf3 rfl rfl rfl rfl rfl (by decide)) ?_
          refine zon ?_
          refine zu1 ?_
          refine zt rfl (zc rfl (mayNum_c ⟨ng, d.extract f l, xx - b + ((d.size : Int) - l)⟩ _ (by simp only; omega))) ?_
          refine zv1 ?_
          refine AWp_seq ?_
          refine zw2 ?_
          refine AWp_cond rfl (fun h21 => ?_) (fun h21 => ?_)
          ·(try rw [h21]); (try simp only [decide_eq_true_eq, decide_eq_false_iff_not, Bool.not_eq_true', Bool.not_eq_false', Int.not_lt, Int.not_le, Bool.not_true, Bool.not_false, Int.toNat_natCast, tn1, tn2, tm1, tnn, bne_iff_ne, beq_iff_eq, beq_eq_false_iff_ne, ne_eq, Decidable.not_not] at h21)
           refine zw3 ?_
           refine zrt ?_
           first | (exfalso; omega; done) | (have hE : rNum s = ({}, 0) := by unfold rNum; rw [if_neg (by simp [h1]; omega), ht, if_pos (by rw [hnf, hnl]; omega)]); rw [hE]; exact RQ_ret (rkvs_cons (rkv_ck rfl rfl rfl) (rkvs_cons (rkv_t rfl) rfl)) hcl (by simp [rks, AV.lt, AV.ltL, ofConst1, ncells]) (Ret_of rfl) | (have hE : rNum s = ({}, 5) := by unfold rNum; rw [if_neg (by simp [h1]; omega), ht, if_neg (by rw [hnf, hnl]; omega), if_neg (by rw [hof]; exact (pb_niff _).1 (by assumption))]); rw [hE]; exact RQ_ret (rkvs_cons (rkv_ck rfl rfl rfl) (rkvs_cons (rkv_t rfl) rfl)) hcl (by simp [rks, AV.lt, AV.ltL, ofConst1, ncells]) (Ret_of rfl) | (have hE : rNum s = (⟨ng, d.extract f l, xx - b + ((d.size : Int) - l)⟩, 0) := by unfold rNum; rw [if_neg (by simp [h1]; omega), ht, if_neg (by rw [hnf, hnl]; omega), if_pos (by rw [hof]; exact (pb_iff _).1 (by assumption)), hof]); rw [hE]; exact RQ_ret (rkvs_cons (rkv_ck rfl rfl rfl) (rkvs_cons (rkv_t rfl) rfl)) hcl (by simp [rks, AV.lt, AV.ltL, ofConst1, ncells]) (Ret_of rfl)
          ·(try rw [h21]); (try simp only [decide_eq_true_eq, decide_eq_false_iff_not, Bool.not_eq_true', Bool.not_eq_false', Int.not_lt, Int.not_le, Bool.not_true, Bool.not_false, Int.toNat_natCast, tn1, tn2, tm1, tnn, bne_iff_ne, beq_iff_eq, beq_eq_false_iff_ne, ne_eq, Decidable.not_not] at h21)
           refine AWp_skip ?_
           refine zw3 ?_
           refine zrt ?_
           first | (exfalso; omega; done) | (have hE : rNum s = ({}, 0) := by unfold rNum; rw [if_neg (by simp [h1]; omega), ht, if_pos (by rw [hnf, hnl]; omega)]); rw [hE]; exact RQ_ret (rkvs_cons (rkv_ck rfl rfl rfl) (rkvs_cons (rkv_t rfl) rfl)) hcl (by simp [rks, AV.lt, AV.ltL, ofConst1, ncells]) (Ret_of rfl) | (have hE : rNum s = ({}, 5) := by unfold rNum; rw [if_neg (by simp [h1]; omega), ht, if_neg (by rw [hnf, hnl]; omega), if_neg (by rw [hof]; exact (pb_niff _).1 (by assumption))]); rw [hE]; exact RQ_ret (rkvs_cons (rkv_ck rfl rfl rfl) (rkvs_cons (rkv_t rfl) rfl)) hcl (by simp [rks, AV.lt, AV.ltL, ofConst1, ncells]) (Ret_of rfl) | (have hE : rNum s = (⟨ng, d.extract f l, xx - b + ((d.size : Int) - l)⟩, 0) := by unfold rNum; rw [if_neg (by simp [h1]; omega), ht, if_neg (by rw [hnf, hnl]; omega), if_pos (by rw [hof]; exact (pb_iff _).1 (by assumption)), hof]); rw [hE]; exact RQ_ret (rkvs_cons (rkv_ck rfl rfl rfl) (rkvs_cons (rkv_t rfl) rfl)) hcl (by simp [rks, AV.lt, AV.ltL, ofConst1, ncells]) (Ret_of rfl)
       ·rw [h18]; (try simp only [decide_eq_true_eq, decide_eq_false_iff_not, Bool.not_eq_true', Bool.not_eq_false', Int.not_lt, Int.not_le, Bool.not_true, Bool.not_false, Int.toNat_natCast, tn1, tn2, tm1, tnn, bne_iff_ne, beq_iff_eq, beq_eq_false_iff_ne, ne_eq, Decidable.not_not] at h18)
        refine zv6 ?_
        refine AWp_condF rfl ?_
        refine AWp_exit ?_
        refine AWp_seq ?_
        refine zsr ?_
        have hll : lz d f d.size = l := by rw [← hl1]; exact lz_no (by omega) hl2
        have hxs : (d.extract f l).size ≤ d.size := by rw [ByteArray.size_extract]; omega
        have hnf : nF ⟨ng, dn, pt, pw, d, b, x⟩ = f := hff
        have hnl : nL ⟨ng, dn, pt, pw, d, b, x⟩ = l := by unfold nL; rw [hnf]; exact hll
        have hof : nOf ⟨ng, dn, pt, pw, d, b, x⟩ = ⟨ng, d.extract f l, xx - b + ((d.size : Int) - l)⟩ := by unfold nOf; rw [hnf, hnl, ← hx1]
        refine zv3 ?_
        refine AWp_cond rfl (fun h22 => ?_) (fun h22 => ?_)
        ·(try rw [h22]); (try simp only [decide_eq_true_eq, decide_eq_false_iff_not, Bool.not_eq_true', Bool.not_eq_false', Int.not_lt, Int.not_le, Bool.not_true, Bool.not_false, Int.toNat_natCast, tn1, tn2, tm1, tnn, bne_iff_ne, beq_iff_eq, beq_eq_false_iff_ne, ne_eq, Decidable.not_not] at h22)
         refine zw3 ?_
         refine zrt ?_
         first | (exfalso; omega; done) | (have hE : rNum s = ({}, 0) := by unfold rNum; rw [if_neg (by simp [h1]; omega), ht, if_pos (by rw [hnf, hnl]; omega)]); rw [hE]; exact RQ_ret (rkvs_cons (rkv_ck rfl rfl rfl) (rkvs_cons (rkv_t rfl) rfl)) hcl (by simp [rks, AV.lt, AV.ltL, ofConst1, ncells]) (Ret_of rfl) | (have hE : rNum s = ({}, 5) := by unfold rNum; rw [if_neg (by simp [h1]; omega), ht, if_neg (by rw [hnf, hnl]; omega), if_neg (by rw [hof]; exact (pb_niff _).1 (by assumption))]); rw [hE]; exact RQ_ret (rkvs_cons (rkv_ck rfl rfl rfl) (rkvs_cons (rkv_t rfl) rfl)) hcl (by simp [rks, AV.lt, AV.ltL, ofConst1, ncells]) (Ret_of rfl) | (have hE : rNum s = (⟨ng, d.extract f l, xx - b + ((d.size : Int) - l)⟩, 0) := by unfold rNum; rw [if_neg (by simp [h1]; omega), ht, if_neg (by rw [hnf, hnl]; omega), if_pos (by rw [hof]; exact (pb_iff _).1 (by assumption)), hof]); rw [hE]; exact RQ_ret (rkvs_cons (rkv_ck rfl rfl rfl) (rkvs_cons (rkv_t rfl) rfl)) hcl (by simp [rks, AV.lt, AV.ltL, ofConst1, ncells]) (Ret_of rfl)
        ·(try rw [h22]); (try simp only [decide_eq_true_eq, decide_eq_false_iff_not, Bool.not_eq_true', Bool.not_eq_false', Int.not_lt, Int.not_le, Bool.not_true, Bool.not_false, Int.toNat_natCast, tn1, tn2, tm1, tnn, bne_iff_ne, beq_iff_eq, beq_eq_false_iff_ne, ne_eq, Decidable.not_not] at h22)
         refine AWp_skip ?_
         refine zu4 ?_
         simp only [Int.toNat_natCast]
         refine zg1 ?_
         refine ztN rfl rfl (op_storeO (r := [.bool ng, .str (d.extract f l), .int .i64 0]) rfl Tryz.sizeOf9 rfl rfl rfl rfl rfl (by decide)) ?_
         refine zon ?_
         refine zu2 ?_
         refine ztN rfl rfl (op_storeO (r := [.bool ng, .str (d.extract f l), .int .i64 (xx - b + ((d.size : Int) - l))]) rfl Tryz.sizeOf3 rfl rfl rfl rfl rfl (by decide)) ?_
         refine zon ?_
         refine zu1 ?_
         refine zt rfl (zc rfl (mayNum_c ⟨ng, d.extract f l, xx - b + ((d.size : Int) - l)⟩ _ (by simp only; omega))) ?_
         refine zv1 ?_
         refine AWp_seq ?_
         refine zw2 ?_
         refine AWp_cond rfl (fun h23 => ?_) (fun h23 => ?_)
         ·(try rw [h23]); (try simp only [decide_eq_true_eq, decide_eq_false_iff_not, Bool.not_eq_true', Bool.not_eq_false', Int.not_lt, Int.not_le, Bool.not_true, Bool.not_false, Int.toNat_natCast, tn1, tn2, tm1, tnn, bne_iff_ne, beq_iff_eq, beq_eq_false_iff_ne, ne_eq, Decidable.not_not] at h23)
          refine zw3 ?_
          refine zrt ?_
          first | (exfalso; omega; done) | (have hE : rNum s = ({}, 0) := by unfold rNum; rw [if_neg (by simp [h1]; omega), ht, if_pos (by rw [hnf, hnl]; omega)]); rw [hE]; exact RQ_ret (rkvs_cons (rkv_ck rfl rfl rfl) (rkvs_cons (rkv_t rfl) rfl)) hcl (by simp [rks, AV.lt, AV.ltL, ofConst1, ncells]) (Ret_of rfl) | (have hE : rNum s = ({}, 5) := by unfold rNum; rw [if_neg (by simp [h1]; omega), ht, if_neg (by rw [hnf, hnl]; omega), if_neg (by rw [hof]; exact (pb_niff _).1 (by assumption))]); rw [hE]; exact RQ_ret (rkvs_cons (rkv_ck rfl rfl rfl) (rkvs_cons (rkv_t rfl) rfl)) hcl (by simp [rks, AV.lt, AV.ltL, ofConst1, ncells]) (Ret_of rfl) | (have hE : rNum s = (⟨ng, d.extract f l, xx - b + ((d.size : Int) - l)⟩, 0) := by unfold rNum; rw [if_neg (by simp [h1]; omega), ht, if_neg (by rw [hnf, hnl]; omega), if_pos (by rw [hof]; exact (pb_iff _).1 (by assumption)), hof]); rw [hE]; exact RQ_ret (rkvs_cons (rkv_ck rfl rfl rfl) (rkvs_cons (rkv_t rfl) rfl)) hcl (by simp [rks, AV.lt, AV.ltL, ofConst1, ncells]) (Ret_of rfl)
         ·(try rw [h23]); (try simp only [decide_eq_true_eq, decide_eq_false_iff_not, Bool.not_eq_true', Bool.not_eq_false', Int.not_lt, Int.not_le, Bool.not_true, Bool.not_false, Int.toNat_natCast, tn1, tn2, tm1, tnn, bne_iff_ne, beq_iff_eq, beq_eq_false_iff_ne, ne_eq, Decidable.not_not] at h23)
          refine AWp_skip ?_
          refine zw3 ?_
          refine zrt ?_
          first | (exfalso; omega; done) | (have hE : rNum s = ({}, 0) := by unfold rNum; rw [if_neg (by simp [h1]; omega), ht, if_pos (by rw [hnf, hnl]; omega)]); rw [hE]; exact RQ_ret (rkvs_cons (rkv_ck rfl rfl rfl) (rkvs_cons (rkv_t rfl) rfl)) hcl (by simp [rks, AV.lt, AV.ltL, ofConst1, ncells]) (Ret_of rfl) | (have hE : rNum s = ({}, 5) := by unfold rNum; rw [if_neg (by simp [h1]; omega), ht, if_neg (by rw [hnf, hnl]; omega), if_neg (by rw [hof]; exact (pb_niff _).1 (by assumption))]); rw [hE]; exact RQ_ret (rkvs_cons (rkv_ck rfl rfl rfl) (rkvs_cons (rkv_t rfl) rfl)) hcl (by simp [rks, AV.lt, AV.ltL, ofConst1, ncells]) (Ret_of rfl) | (have hE : rNum s = (⟨ng, d.extract f l, xx - b + ((d.size : Int) - l)⟩, 0) := by unfold rNum; rw [if_neg (by simp [h1]; omega), ht, if_neg (by rw [hnf, hnl]; omega), if_pos (by rw [hof]; exact (pb_iff _).1 (by assumption)), hof]); rw [hE]; exact RQ_ret (rkvs_cons (rkv_ck rfl rfl rfl) (rkvs_cons (rkv_t rfl) rfl)) hcl (by simp [rks, AV.lt, AV.ltL, ofConst1, ncells]) (Ret_of rfl)
     ·rw [h16]; (try simp only [decide_eq_true_eq, decide_eq_false_iff_not, Bool.not_eq_true', Bool.not_eq_false', Int.not_lt, Int.not_le, Bool.not_true, Bool.not_false, Int.toNat_natCast, tn1, tn2, tm1, tnn, bne_iff_ne, beq_iff_eq, beq_eq_false_iff_ne, ne_eq, Decidable.not_not] at h16)
      refine zv5 ?_
      refine AWp_condF rfl ?_
      refine AWp_exit ?_
      refine zw3 ?_
      refine AWp_seq ?_
      refine AWp_block ?_
      -- loop 3 LIVE 2:alloc 3:assign 6:alloc 7:assign 10:assign 15:assign 16:assign
      have hff : fz d 0 = f := by rw [← hf1]; exact fz_no (by omega)
      refine AWp_loop (ι := Nat) (fun l => lz d f l = lz d f d.size ∧ f ≤ l ∧ l ≤ d.size) (fun l => ⟨[], [(2, .ptr (σ.length + 0) 0), (6, .ptr (σ.length + 1) 0), (7, .str d), (10, .int .i64 (xx - b + ((d.size : Int) - l))), (15, .int .i64 (f : Int)), (16, .int .i64 (l : Int))]⟩) (fun l => σ ++ [_, _]) (fun l => l) (d.size) (⟨rfl, hf2, Nat.le_refl _⟩) ?_ rfl (fun l hl => ?_)
      ·refine ⟨rfl, rfl, rfl, rfl, ?_, rfl, rfl, trivial⟩
       rw [Int.sub_self, Int.add_zero]; rfl
      obtain ⟨hl1, hl2, hl3⟩ := hl
      refine AWp_seq ?_
      refine zu4 ?_
      refine zsp 99 rfl (fun h24 => ?_) fun h24 => ?_
      ·rw [h24]; (try simp only [decide_eq_true_eq, decide_eq_false_iff_not, Bool.not_eq_true', Bool.not_eq_false', Int.not_lt, Int.not_le, Bool.not_true, Bool.not_false, Int.toNat_natCast, tn1, tn2, tm1, tnn, bne_iff_ne, beq_iff_eq, beq_eq_false_iff_ne, ne_eq, Decidable.not_not] at h24)
       refine zv6 ?_
       refine AWp_cond rfl (fun h25 => ?_) (fun h25 => ?_)
       ·(try rw [h25]); (try simp only [decide_eq_true_eq, decide_eq_false_iff_not, Bool.not_eq_true', Bool.not_eq_false', Int.not_lt, Int.not_le, Bool.not_true, Bool.not_false, Int.toNat_natCast, tn1, tn2, tm1, tnn, bne_iff_ne, beq_iff_eq, beq_eq_false_iff_ne, ne_eq, Decidable.not_not] at h25)
        refine AWp_skip ?_
        refine AWp_block ?_
        refine zw3 ?_
        refine AWp_regL ?_
        refine zv3 ?_
        refine ⟨l - 1, σ.length + 2, ⟨by rw [← hl1]; exact (lz_yes (by omega) (by omega)).symm, by omega⟩, by omega, by simp, ⟨rfl, rfl, rfl, rfl, ?_, rfl, ?_, trivial⟩, closed_own 2 hcl (by simp [ownLt, AO.cells, AV.ltL, AV.lt]), by simp [ltE, AV.lt], take_own 2⟩
        ·rw [show xx - b + ((d.size : Int) - ((l - 1 : Nat) : Int)) = xx - b + ((d.size : Int) - (l : Int)) + 1 by omega]; rfl
        ·rw [show ((l - 1 : Nat) : Int) = (l : Int) - 1 by omega]; rfl
       ·(try rw [h25]); (try simp only [decide_eq_true_eq, decide_eq_false_iff_not, Bool.not_eq_true', Bool.not_eq_false', Int.not_lt, Int.not_le, Bool.not_true, Bool.not_false, Int.toNat_natCast, tn1, tn2, tm1, tnn, bne_iff_ne, beq_iff_eq, beq_eq_false_iff_ne, ne_eq, Decidable.not_not] at h25)
        refine AWp_exit ?_
        refine AWp_seq ?_
        refine zsr ?_
        have hll : lz d f d.size = l := by rw [← hl1]; exact lz_no (by omega) hl2
        have hxs : (d.extract f l).size ≤ d.size := by rw [ByteArray.size_extract]; omega
        have hnf : nF ⟨ng, dn, pt, pw, d, b, x⟩ = f := hff
        have hnl : nL ⟨ng, dn, pt, pw, d, b, x⟩ = l := by unfold nL; rw [hnf]; exact hll
        have hof : nOf ⟨ng, dn, pt, pw, d, b, x⟩ = ⟨ng, d.extract f l, xx - b + ((d.size : Int) - l)⟩ := by unfold nOf; rw [hnf, hnl, ← hx1]
        refine zv3 ?_
        refine AWp_cond rfl (fun h26 => ?_) (fun h26 => ?_)
        ·(try rw [h26]); (try simp only [decide_eq_true_eq, decide_eq_false_iff_not, Bool.not_eq_true', Bool.not_eq_false', Int.not_lt, Int.not_le, Bool.not_true, Bool.not_false, Int.toNat_natCast, tn1, tn2, tm1, tnn, bne_iff_ne, beq_iff_eq, beq_eq_false_iff_ne, ne_eq, Decidable.not_not] at h26)
         refine zw3 ?_
         refine zrt ?_
         first | (exfalso; omega; done) | (have hE : rNum s = ({}, 0) := by unfold rNum; rw [if_neg (by simp [h1]; omega), ht, if_pos (by rw [hnf, hnl]; omega)]); rw [hE]; exact RQ_ret (rkvs_cons (rkv_ck rfl rfl rfl) (rkvs_cons (rkv_t rfl) rfl)) hcl (by simp [rks, AV.lt, AV.ltL, ofConst1, ncells]) (Ret_of rfl) | (have hE : rNum s = ({}, 5) := by unfold rNum; rw [if_neg (by simp [h1]; omega), ht, if_neg (by rw [hnf, hnl]; omega), if_neg (by rw [hof]; exact (pb_niff _).1 (by assumption))]); rw [hE]; exact RQ_ret (rkvs_cons (rkv_ck rfl rfl rfl) (rkvs_cons (rkv_t rfl) rfl)) hcl (by simp [rks, AV.lt, AV.ltL, ofConst1, ncells]) (Ret_of rfl) | (have hE : rNum s = (⟨ng, d.extract f l, xx - b + ((d.size : Int) - l)⟩, 0) := by unfold rNum; rw [if_neg (by simp [h1]; omega), ht, if_neg (by rw [hnf, hnl]; omega), if_pos (by rw [hof]; exact (pb_iff _).1 (by assumption)), hof]); rw [hE]; exact RQ_ret (rkvs_cons (rkv_ck rfl rfl rfl) (rkvs_cons (rkv_t rfl) rfl)) hcl (by simp [rks, AV.lt, AV.ltL, ofConst1, ncells]) (Ret_of rfl)
        ·(try rw [h26]); (try simp only [decide_eq_true_eq, decide_eq_false_iff_not, Bool.not_eq_true', Bool.not_eq_false', Int.not_lt, Int.not_le, Bool.not_true, Bool.not_false, Int.toNat_natCast, tn1, tn2, tm1, tnn, bne_iff_ne, beq_iff_eq, beq_eq_false_iff_ne, ne_eq, Decidable.not_not] at h26)
         refine AWp_skip ?_
         refine zu4 ?_
         simp only [Int.toNat_natCast]
         refine zg1 ?_
         refine ztN rfl rfl (op_storeO (r := [.bool ng, .str (d.extract f l), .int .i64 0]) rfl Tryz.sizeOf9 rfl rfl rfl rfl rfl (by decide)) ?_
         refine zon ?_
         refine zu2 ?_
         refine ztN rfl rfl (op_storeO (r := [.bool ng, .str (d.extract f l), .int .i64 (xx - b + ((d.size : Int) - l))]) rfl Tryz.sizeOf3 rfl rfl rfl rfl rfl (by decide)) ?_
         refine zon ?_
         refine zu1 ?_
         refine zt rfl (zc rfl (mayNum_c ⟨ng, d.extract f l, xx - b + ((d.size : Int) - l)⟩ _ (by simp only; omega))) ?_
         refine zv1 ?_
         refine AWp_seq ?_
         refine zw2 ?_
         refine AWp_cond rfl (fun h27 => ?_) (fun h27 => ?_)
         ·(try rw [h27]); (try simp only [decide_eq_true_eq, decide_eq_false_iff_not, Bool.not_eq_true', Bool.not_eq_false', Int.not_lt, Int.not_le, Bool.not_true, Bool.not_false, Int.toNat_natCast, tn1, tn2, tm1, tnn, bne_iff_ne, beq_iff_eq, beq_eq_false_iff_ne, ne_eq, Decidable.not_not] at h27)
          refine zw3 ?_
          refine zrt ?_
          first | (exfalso; omega; done) | (have hE : rNum s = ({}, 0) := by unfold rNum; rw [if_neg (by simp [h1]; omega), ht, if_pos (by rw [hnf, hnl]; omega)]); rw [hE]; exact RQ_ret (rkvs_cons (rkv_ck rfl rfl rfl) (rkvs_cons (rkv_t rfl) rfl)) hcl (by simp [rks, AV.lt, AV.ltL, ofConst1, ncells]) (Ret_of rfl) | (have hE : rNum s = ({}, 5) := by unfold rNum; rw [if_neg (by simp [h1]; omega), ht, if_neg (by rw [hnf, hnl]; omega), if_neg (by rw [hof]; exact (pb_niff _).1 (by assumption))]); rw [hE]; exact RQ_ret (rkvs_cons (rkv_ck rfl rfl rfl) (rkvs_cons (rkv_t rfl) rfl)) hcl (by simp [rks, AV.lt, AV.ltL, ofConst1, ncells]) (Ret_of rfl) | (have hE : rNum s = (⟨ng, d.extract f l, xx - b + ((d.size : Int) - l)⟩, 0) := by unfold rNum; rw [if_neg (by simp [h1]; omega), ht, if_neg (by rw [hnf, hnl]; omega), if_pos (by rw [hof]; exact (pb_iff _).1 (by assumption)), hof]); rw [hE]; exact RQ_ret (rkvs_cons (rkv_ck rfl rfl rfl) (rkvs_cons (rkv_t rfl) rfl)) hcl (by simp [rks, AV.lt, AV.ltL, ofConst1, ncells]) (Ret_of rfl)
         ·(try rw [h27]); (try simp only [decide_eq_true_eq, decide_eq_false_iff_not, Bool.not_eq_true', Bool.not_eq_false', Int.not_lt, Int.not_le, Bool.not_true, Bool.not_false, Int.toNat_natCast, tn1, tn2, tm1, tnn, bne_iff_ne, beq_iff_eq, beq_eq_false_iff_ne, ne_eq, Decidable.not_not] at h27)
          refine AWp_skip ?_
          refine zw3 ?_
          refine zrt ?_
          first | (exfalso; omega; done) | (have hE : rNum s = ({}, 0) := by unfold rNum; rw [if_neg (by simp [h1]; omega), ht, if_pos (by rw [hnf, hnl]; omega)]); rw [hE]; exact RQ_ret (rkvs_cons (rkv_ck rfl rfl rfl) (rkvs_cons (rkv_t rfl) rfl)) hcl (by simp [rks, AV.lt, AV.ltL, ofConst1, ncells]) (Ret_of rfl) | (have hE : rNum s = ({}, 5) := by unfold rNum; rw [if_neg (by simp [h1]; omega), ht, if_neg (by rw [hnf, hnl]; omega), if_neg (by rw [hof]; exact (pb_niff _).1 (by assumption))]); rw [hE]; exact RQ_ret (rkvs_cons (rkv_ck rfl rfl rfl) (rkvs_cons (rkv_t rfl) rfl)) hcl (by simp [rks, AV.lt, AV.ltL, ofConst1, ncells]) (Ret_of rfl) | (have hE : rNum s = (⟨ng, d.extract f l, xx - b + ((d.size : Int) - l)⟩, 0) := by unfold rNum; rw [if_neg (by simp [h1]; omega), ht, if_neg (by rw [hnf, hnl]; omega), if_pos (by rw [hof]; exact (pb_iff _).1 (by assumption)), hof]); rw [hE]; exact RQ_ret (rkvs_cons (rkv_ck rfl rfl rfl) (rkvs_cons (rkv_t rfl) rfl)) hcl (by simp [rks, AV.lt, AV.ltL, ofConst1, ncells]) (Ret_of rfl)
      ·rw [h24]; (try simp only [decide_eq_true_eq, decide_eq_false_iff_not, Bool.not_eq_true', Bool.not_eq_false', Int.not_lt, Int.not_le, Bool.not_true, Bool.not_false, Int.toNat_natCast, tn1, tn2, tm1, tnn, bne_iff_ne, beq_iff_eq, beq_eq_false_iff_ne, ne_eq, Decidable.not_not] at h24)
       refine zv6 ?_
       refine AWp_condF rfl ?_
       refine AWp_exit ?_
       refine AWp_seq ?_
       refine zsr ?_
       have hll : lz d f d.size = l := by rw [← hl1]; exact lz_no (by omega) hl2
       have hxs : (d.extract f l).size ≤ d.size := by rw [ByteArray.size_extract]; omega
       have hnf : nF ⟨ng, dn, pt, pw, d, b, x⟩ = f := hff
       have hnl : nL ⟨ng, dn, pt, pw, d, b, x⟩ = l := by unfold nL; rw [hnf]; exact hll
       have hof : nOf ⟨ng, dn, pt, pw, d, b, x⟩ = ⟨ng, d.extract f l, xx - b + ((d.size : Int) - l)⟩ := by unfold nOf; rw [hnf, hnl, ← hx1]
       refine zv3 ?_
       refine AWp_cond rfl (fun h28 => ?_) (fun h28 => ?_)
       ·(try rw [h28]); (try simp only [decide_eq_true_eq, decide_eq_false_iff_not, Bool.not_eq_true', Bool.not_eq_false', Int.not_lt, Int.not_le, Bool.not_true, Bool.not_false, Int.toNat_natCast, tn1, tn2, tm1, tnn, bne_iff_ne, beq_iff_eq, beq_eq_false_iff_ne, ne_eq, Decidable.not_not] at h28)
        refine zw3 ?_
        refine zrt ?_
        first | (exfalso; omega; done) | (have hE : rNum s = ({}, 0) := by unfold rNum; rw [if_neg (by simp [h1]; omega), ht, if_pos (by rw [hnf, hnl]; omega)]); rw [hE]; exact RQ_ret (rkvs_cons (rkv_ck rfl rfl rfl) (rkvs_cons (rkv_t rfl) rfl)) hcl (by simp [rks, AV.lt, AV.ltL, ofConst1, ncells]) (Ret_of rfl) | (have hE : rNum s = ({}, 5) := by unfold rNum; rw [if_neg (by simp [h1]; omega), ht, if_neg (by rw [hnf, hnl]; omega), if_neg (by rw [hof]; exact (pb_niff _).1 (by assumption))]); rw [hE]; exact RQ_ret (rkvs_cons (rkv_ck rfl rfl rfl) (rkvs_cons (rkv_t rfl) rfl)) hcl (by simp [rks, AV.lt, AV.ltL, ofConst1, ncells]) (Ret_of rfl) | (have hE : rNum s = (⟨ng, d.extract f l, xx - b + ((d.size : Int) - l)⟩, 0) := by unfold rNum; rw [if_neg (by simp [h1]; omega), ht, if_neg (by rw [hnf, hnl]; omega), if_pos (by rw [hof]; exact (pb_iff _).1 (by assumption)), hof]); rw [hE]; exact RQ_ret (rkvs_cons (rkv_ck rfl rfl rfl) (rkvs_cons (rkv_t rfl) rfl)) hcl (by simp [rks, AV.lt, AV.ltL, ofConst1, ncells]) (Ret_of rfl)
       ·(try rw [h28]); (try simp only [decide_eq_true_eq, decide_eq_false_iff_not, Bool.not_eq_true', Bool.not_eq_false', Int.not_lt, Int.not_le, Bool.not_true, Bool.not_false, Int.toNat_natCast, tn1, tn2, tm1, tnn, bne_iff_ne, beq_iff_eq, beq_eq_false_iff_ne, ne_eq, Decidable.not_not] at h28)
        refine AWp_skip ?_
        refine zu4 ?_
        simp only [Int.toNat_natCast]
        refine zg1 ?_
        refine ztN rfl rfl (op_storeO (r := [.bool ng, .str (d.extract f l), .int .i64 0]) rfl Tryz.sizeOf9 rfl rfl rfl rfl rfl (by decide)) ?_
        refine zon ?_
        refine zu2 ?_
        refine ztN rfl rfl (op_storeO (r := [.bool ng, .str (d.extract f l), .int .i64 (xx - b + ((d.size : Int) - l))]) rfl Tryz.sizeOf3 rfl rfl rfl rfl rfl (by decide)) ?_
        refine zon ?_
        refine zu1 ?_
        refine zt rfl (zc rfl (mayNum_c ⟨ng, d.extract f l, xx - b + ((d.size : Int) - l)⟩ _ (by simp only; omega))) ?_
        refine zv1 ?_
        refine AWp_seq ?_
        refine zw2 ?_
        refine AWp_cond rfl (fun h29 => ?_) (fun h29 => ?_)
        ·(try rw [h29]); (try simp only [decide_eq_true_eq, decide_eq_false_iff_not, Bool.not_eq_true', Bool.not_eq_false', Int.not_lt, Int.not_le, Bool.not_true, Bool.not_false, Int.toNat_natCast, tn1, tn2, tm1, tnn, bne_iff_ne, beq_iff_eq, beq_eq_false_iff_ne, ne_eq, Decidable.not_not] at h29)
         refine zw3 ?_
         refine zrt ?_
         first | (exfalso; omega; done) | (have hE : rNum s = ({}, 0) := by unfold rNum; rw [if_neg (by simp [h1]; omega), ht, if_pos (by rw [hnf, hnl]; omega)]); rw [hE]; exact RQ_ret (rkvs_cons (rkv_ck rfl rfl rfl) (rkvs_cons (rkv_t rfl) rfl)) hcl (by simp [rks, AV.lt, AV.ltL, ofConst1, ncells]) (Ret_of rfl) | (have hE : rNum s = ({}, 5) := by unfold rNum; rw [if_neg (by simp [h1]; omega), ht, if_neg (by rw [hnf, hnl]; omega), if_neg (by rw [hof]; exact (pb_niff _).1 (by assumption))]); rw [hE]; exact RQ_ret (rkvs_cons (rkv_ck rfl rfl rfl) (rkvs_cons (rkv_t rfl) rfl)) hcl (by simp [rks, AV.lt, AV.ltL, ofConst1, ncells]) (Ret_of rfl) | (have hE : rNum s = (⟨ng, d.extract f l, xx - b + ((d.size : Int) - l)⟩, 0) := by unfold rNum; rw [if_neg (by simp [h1]; omega), ht, if_neg (by rw [hnf, hnl]; omega), if_pos (by rw [hof]; exact (pb_iff _).1 (by assumption)), hof]); rw [hE]; exact RQ_ret (rkvs_cons (rkv_ck rfl rfl rfl) (rkvs_cons (rkv_t rfl) rfl)) hcl (by simp [rks, AV.lt, AV.ltL, ofConst1, ncells]) (Ret_of rfl)
        ·(try rw [h29]); (try simp only [decide_eq_true_eq, decide_eq_false_iff_not, Bool.not_eq_true', Bool.not_eq_false', Int.not_lt, Int.not_le, Bool.not_true, Bool.not_false, Int.toNat_natCast, tn1, tn2, tm1, tnn, bne_iff_ne, beq_iff_eq, beq_eq_false_iff_ne, ne_eq, Decidable.not_not] at h29)
         refine AWp_skip ?_
         refine zw3 ?_
         refine zrt ?_
         first | (exfalso; omega; done) | (have hE : rNum s = ({}, 0) := by unfold rNum; rw [if_neg (by simp [h1]; omega), ht, if_pos (by rw [hnf, hnl]; omega)]); rw [hE]; exact RQ_ret (rkvs_cons (rkv_ck rfl rfl rfl) (rkvs_cons (rkv_t rfl) rfl)) hcl (by simp [rks, AV.lt, AV.ltL, ofConst1, ncells]) (Ret_of rfl) | (have hE : rNum s = ({}, 5) := by unfold rNum; rw [if_neg (by simp [h1]; omega), ht, if_neg (by rw [hnf, hnl]; omega), if_neg (by rw [hof]; exact (pb_niff _).1 (by assumption))]); rw [hE]; exact RQ_ret (rkvs_cons (rkv_ck rfl rfl rfl) (rkvs_cons (rkv_t rfl) rfl)) hcl (by simp [rks, AV.lt, AV.ltL, ofConst1, ncells]) (Ret_of rfl) | (have hE : rNum s = (⟨ng, d.extract f l, xx - b + ((d.size : Int) - l)⟩, 0) := by unfold rNum; rw [if_neg (by simp [h1]; omega), ht, if_neg (by rw [hnf, hnl]; omega), if_pos (by rw [hof]; exact (pb_iff _).1 (by assumption)), hof]); rw [hE]; exact RQ_ret (rkvs_cons (rkv_ck rfl rfl rfl) (rkvs_cons (rkv_t rfl) rfl)) hcl (by simp [rks, AV.lt, AV.ltL, ofConst1, ncells]) (Ret_of rfl)
end Lg
set_option maxRecDepth 20000
set_option maxHeartbeats 4000000
namespace Lg
open Go Go.Proofs Go.RowKit
variable [GLay] 
theorem hasPre_c (l : BL) (c : UInt8) (σ : List AO) (hl : l.length ≤ 1000000) : ACalls Tryz.prog 224 [.str (ba l), .str ⟨#[c]⟩] σ (Ret (.bool (hdC c l)) σ) := by
 refine ACalls_body Tryz.func224 rfl Tryz.ntmps224 (res1 Tryz.results224) (Nat.le_of_ble_eq_true rfl) (fun hcl hal => ?_)
 have hbs : (ba l).size = l.length := ba_size l
 have hc1 : (ByteArray.mk #[c]).size = 1 := rfl
 have hne : l.length = 0 → l = [] := List.eq_nil_of_length_eq_zero
 refine zw1 ?_
 refine zu6 ?_
 refine zsp 10 rfl (fun h1 => ?_) fun h1 => ?_
 ·rw [h1]; replace h1 := zcl h1
  obtain ⟨b, r, rfl⟩ : ∃ b r, l = b :: r := by cases l with | nil => (have : (ba []).size = 0 := rfl; omega) | cons b r => exact ⟨b, r, rfl⟩
  refine zv8 ?_
  refine zrt ?_
  refine ResQ_10 rfl hcl trivial (Ret_of ?_)
  congr 1; have := ex1 b r c; simp only [hdC]; exact decide_eq_decide.2 this
 ·rw [h1]; replace h1 := zcl h1
  refine zv8 ?_
  refine zrt ?_
  refine ResQ_10 rfl hcl trivial (Ret_of ?_)
  rw [hne (by omega)]; rfl

theorem tHasPre_c (l : BL) (c : UInt8) (σ : List AO) (hl : l.length ≤ 1000000) : ACalls Tryz.prog 201 [.str (ba l), .str ⟨#[c]⟩] σ (Ret (.bool (hdC c l)) σ) := by
 refine ACalls_body Tryz.func201 rfl Tryz.ntmps201 (res1 Tryz.results201) (Nat.le_of_ble_eq_true rfl) (fun hcl hal => ?_)
 refine zw1 ?_
 refine zu2 ?_
 refine zt rfl (zc rfl (hasPre_c l c _ hl)) ?_
 refine zv1 ?_
 refine zrt ?_
 exact ResQ_10 rfl hcl (by simp [AV.lt, AV.ltL]) ⟨rfl, rfl⟩

theorem trimPre_c (l : BL) (c : UInt8) (σ : List AO) (hl : l.length ≤ 1000000) : ACalls Tryz.prog 199 [.str (ba l), .str ⟨#[c]⟩] σ (Ret (.str (ba (strip c.toNat l))) σ) := by
 refine ACalls_body Tryz.func199 rfl Tryz.ntmps199 (res1 Tryz.results199) (Nat.le_of_ble_eq_true rfl) (fun hcl hal => ?_)
 have hbs : (ba l).size = l.length := ba_size l
 have hc1 : (ByteArray.mk #[c]).size = 1 := rfl
 refine zw1 ?_
 refine AWp_seq ?_
 refine zu2 ?_
 refine zt rfl (zc rfl (hasPre_c l c _ hl)) ?_
 refine zon ?_
 refine AWp_cond rfl (fun h1 => ?_) (fun h1 => ?_)
 ·(try rw [h1]); replace h1 := zcl h1
  obtain ⟨b, r, rfl⟩ : ∃ b r, l = b :: r := by cases l with | nil => cases h1 | cons b r => exact ⟨b, r, rfl⟩
  have hb : b.toNat = c.toNat := by simpa [hdC] using h1
  have hrl : (b :: r).length = r.length + 1 := rfl
  refine zw5 ?_
  refine zrt ?_
  rw [strip_eq hb]
  exact ResQ_10 rfl hcl trivial (Ret_of (congrArg AV.str (ba_suf1 b r)))
 ·(try rw [h1]); replace h1 := zcl h1
  have hs : strip c.toNat l = l := by cases l with | nil => rfl | cons b r => exact strip_ne (by simpa [hdC] using h1)
  refine AWp_skip ?_
  refine zw2 ?_
  refine zrt ?_
  rw [hs]
  exact ResQ_10 rfl hcl trivial (Ret_of rfl)

theorem tTrimPre_c (l : BL) (c : UInt8) (σ : List AO) (hl : l.length ≤ 1000000) : ACalls Tryz.prog 175 [.str (ba l), .str ⟨#[c]⟩] σ (Ret (.str (ba (strip c.toNat l))) σ) := by
 refine ACalls_body Tryz.func175 rfl Tryz.ntmps175 (res1 Tryz.results175) (Nat.le_of_ble_eq_true rfl) (fun hcl hal => ?_)
 refine zw1 ?_
 refine zu2 ?_
 refine zt rfl (zc rfl (trimPre_c l c _ hl)) ?_
 refine zv1 ?_
 refine zrt ?_
 exact ResQ_10 rfl hcl (by simp [AV.lt, AV.ltL]) ⟨rfl, rfl⟩

theorem trimLB_c (l : BL) (σ : List AO) (hl : l.length ≤ 1000000) : ACalls Tryz.prog 202 [.str (ba l), .int .u8 48] σ (Ret (.str (ba (cutL l))) σ) := by
 refine ACalls_body Tryz.func202 rfl Tryz.ntmps202 (res1 Tryz.results202) (Nat.le_of_ble_eq_true rfl) (fun hcl hal => ?_)
 refine zw1 ?_
 refine AWp_seq ?_
 refine AWp_block ?_
 -- loop 0 LIVE 0:param 1:param 4:assign
 refine AWp_loop (ι := BL) (fun m => cutL m = cutL l ∧ m.length ≤ l.length) (fun m => ⟨[], [(0, .str (ba m)), (1, .int .u8 48)]⟩) (fun m => σ) (fun m => m.length) (l) (⟨rfl, Nat.le_refl _⟩) ?_ rfl (fun m hm => ?_)
 ·exact ⟨rfl, rfl, rfl, trivial⟩
 obtain ⟨hm1, hm2⟩ := hm
 have hbs : (ba m).size = m.length := ba_size m
 refine AWp_seq ?_
 refine zu4 ?_
 refine zsp 8 rfl (fun h1 => ?_) fun h1 => ?_
 ·rw [h1]; replace h1 := zcl h1
  refine zv5 ?_
  refine AWp_cond rfl (fun h2 => ?_) (fun h2 => ?_)
  ·(try rw [h2]); replace h2 := zcl h2
   refine AWp_skip ?_
   refine AWp_block ?_
   refine AWp_regL ?_
   refine zv3 ?_
   obtain ⟨b, r, rfl⟩ : ∃ b r, m = b :: r := by cases m with | nil => (have : (ba []).size = 0 := rfl; omega) | cons b r => exact ⟨b, r, rfl⟩
   have hb : b = 48 := by rw [Int.toNat_zero, bat0] at h2; exact UInt8.toNat_inj.1 (show b.toNat = 48 by omega)
   refine ⟨r, σ.length, ⟨by rw [← hm1, cutL_cons, if_pos hb], by simp at hm2; omega⟩, by simp, Nat.le_refl _, ⟨rfl, ?_, rfl, trivial⟩, hcl, ?_, List.take_length⟩
   ·exact congrArg AV.str (ba_suf1 b r)
   ·simp [ltE, AV.lt]
  ·(try rw [h2]); replace h2 := zcl h2
   refine AWp_exit ?_
   refine zw2 ?_
   refine zrt ?_
   have hfin : cutL l = m := by
    rw [← hm1]
    cases m with
    | nil => rfl
    | cons b r =>
     have hlen : (b :: r).length = r.length + 1 := rfl
     first | (exfalso; omega; done) | (rw [cutL_cons, if_neg (fun e => by subst e; rw [Int.toNat_zero, bat0] at h2; exact h2 rfl)])
   rw [hfin]
   exact ResQ_10 rfl hcl trivial (Ret_of rfl)
 ·rw [h1]; replace h1 := zcl h1
  refine zv5 ?_
  refine AWp_condF rfl ?_
  refine AWp_exit ?_
  refine zw2 ?_
  refine zrt ?_
  have hfin : cutL l = m := by
   rw [← hm1]
   cases m with
   | nil => rfl
   | cons b r =>
    have hlen : (b :: r).length = r.length + 1 := rfl
    first | (exfalso; omega; done) | (rw [cutL_cons, if_neg (fun e => by subst e; rw [Int.toNat_zero, bat0] at h2; exact h2 rfl)])
  rw [hfin]
  exact ResQ_10 rfl hcl trivial (Ret_of rfl)

theorem trimRB_c (l : BL) (σ : List AO) (hl : l.length ≤ 1000000) : ACalls Tryz.prog 206 [.str (ba l), .int .u8 48] σ (Ret (.str (ba (cutR l))) σ) := by
 refine ACalls_body Tryz.func206 rfl Tryz.ntmps206 (res1 Tryz.results206) (Nat.le_of_ble_eq_true rfl) (fun hcl hal => ?_)
 refine zw1 ?_
 refine AWp_seq ?_
 refine AWp_block ?_
 -- loop 0 LIVE 0:param 1:param 4:assign
 refine AWp_loop (ι := BL) (fun m => cutR m = cutR l ∧ m.length ≤ l.length) (fun m => ⟨[], [(0, .str (ba m)), (1, .int .u8 48)]⟩) (fun m => σ) (fun m => m.length) (l) (⟨rfl, Nat.le_refl _⟩) ?_ rfl (fun m hm => ?_)
 ·exact ⟨rfl, rfl, rfl, trivial⟩
 obtain ⟨hm1, hm2⟩ := hm
 have hbs : (ba m).size = m.length := ba_size m
 refine AWp_seq ?_
 refine zu4 ?_
 refine zsp 8 rfl (fun h1 => ?_) fun h1 => ?_
 ·rw [h1]; (try simp only [decide_eq_true_eq, decide_eq_false_iff_not, Bool.not_eq_true', Bool.not_eq_false', Int.not_lt, Int.not_le, Bool.not_true, Bool.not_false, Int.toNat_natCast, tm1, bne_iff_ne, beq_iff_eq, beq_eq_false_iff_ne, ne_eq, Decidable.not_not] at h1)
  refine zv8 ?_
  refine AWp_cond rfl (fun h2 => ?_) (fun h2 => ?_)
  ·(try rw [h2]); (try simp only [decide_eq_true_eq, decide_eq_false_iff_not, Bool.not_eq_true', Bool.not_eq_false', Int.not_lt, Int.not_le, Bool.not_true, Bool.not_false, Int.toNat_natCast, tm1, bne_iff_ne, beq_iff_eq, beq_eq_false_iff_ne, ne_eq, Decidable.not_not] at h2)
   refine AWp_skip ?_
   refine AWp_block ?_
   refine AWp_regL ?_
   refine zv6 ?_
   have hb : m.getD (m.length - 1) 0 = 48 := by rw [hbs, bat_ba] at h2; exact UInt8.toNat_inj.1 (show (m.getD (m.length - 1) 0).toNat = 48 by omega)
   refine ⟨m.take (m.length - 1), σ.length, ⟨by rw [← hm1, cutR_take (l := m) (by omega), if_pos hb], by rw [List.length_take]; omega⟩, by rw [List.length_take]; omega, Nat.le_refl _, ⟨rfl, ?_, rfl, trivial⟩, hcl, ?_, List.take_length⟩
   ·rw [← ba_pre]; show AV.str ((ba m).extract (0 : Int).toNat (((ba m).size : Int) - 1).toNat) = _; rw [tm1, hbs]; rfl
   ·simp [ltE, AV.lt]
  ·(try rw [h2]); (try simp only [decide_eq_true_eq, decide_eq_false_iff_not, Bool.not_eq_true', Bool.not_eq_false', Int.not_lt, Int.not_le, Bool.not_true, Bool.not_false, Int.toNat_natCast, tm1, bne_iff_ne, beq_iff_eq, beq_eq_false_iff_ne, ne_eq, Decidable.not_not] at h2)
   refine AWp_exit ?_
   refine zw2 ?_
   refine zrt ?_
   have hfin : cutR l = m := by
    rw [← hm1]
    cases hml : m with
    | nil => rfl
    | cons b r =>
     rw [← hml]
     have hlen : m.length = r.length + 1 := by rw [hml]; rfl
     first | (exfalso; omega; done) | (rw [cutR_take (l := m) (by omega), if_neg (fun e => by rw [hbs, bat_ba, e] at h2; exact h2 rfl)])
   rw [hfin]
   exact ResQ_10 rfl hcl trivial (Ret_of rfl)
 ·rw [h1]; (try simp only [decide_eq_true_eq, decide_eq_false_iff_not, Bool.not_eq_true', Bool.not_eq_false', Int.not_lt, Int.not_le, Bool.not_true, Bool.not_false, Int.toNat_natCast, tm1, bne_iff_ne, beq_iff_eq, beq_eq_false_iff_ne, ne_eq, Decidable.not_not] at h1)
  refine zv8 ?_
  refine AWp_condF rfl ?_
  refine AWp_exit ?_
  refine zw2 ?_
  refine zrt ?_
  have hfin : cutR l = m := by
   rw [← hm1]
   cases hml : m with
   | nil => rfl
   | cons b r =>
    rw [← hml]
    have hlen : m.length = r.length + 1 := by rw [hml]; rfl
    first | (exfalso; omega; done) | (rw [cutR_take (l := m) (by omega), if_neg (fun e => by rw [hbs, bat_ba, e] at h2; exact h2 rfl)])
  rw [hfin]
  exact ResQ_10 rfl hcl trivial (Ret_of rfl)

theorem tTrimL_c (l : BL) (σ : List AO) (hl : l.length ≤ 1000000) : ACalls Tryz.prog 177 [.str (ba l), .str ⟨#[48]⟩] σ (Ret (.str (ba (cutL l))) σ) := by
 refine ACalls_body Tryz.func177 rfl Tryz.ntmps177 (res1 Tryz.results177) (Nat.le_of_ble_eq_true rfl) (fun hcl hal => ?_)
 have hbs : (ba l).size = l.length := ba_size l
 have hc1 : (ByteArray.mk #[48]).size = 1 := rfl
 refine zw1 ?_
 refine AWp_seq ?_
 refine zu3 ?_
 refine zsp 9 rfl (fun h1 => ?_) fun h1 => ?_
 ·rw [h1]; replace h1 := zcl h1
  refine zv3 ?_
  refine AWp_condT rfl ?_
  refine zw2 ?_
  refine zrt ?_
  rw [ba_nil.1 h1]
  exact ResQ_10 rfl hcl trivial (Ret_of rfl)
 ·rw [h1]; replace h1 := zcl h1
  refine zv3 ?_
  refine AWp_cond rfl (fun h2 => ?_) (fun h2 => ?_)
  ·(try rw [h2]); replace h2 := zcl h2
   exact absurd h2 (by decide)
  ·(try rw [h2]); replace h2 := zcl h2
   refine AWp_skip ?_
   refine AWp_seq ?_
   refine zu4 ?_
   refine zsp 17 rfl (fun h3 => ?_) fun h3 => ?_
   ·rw [h3]; replace h3 := zcl h3
    refine zv4 ?_
    refine AWp_cond rfl (fun h4 => ?_) (fun h4 => ?_)
    ·(try rw [h4]); replace h4 := zcl h4
     refine zu3 ?_
     refine zt rfl (zc rfl (trimLB_c l _ hl)) ?_
     refine zv1 ?_
     refine zrt ?_
     exact ResQ_10 rfl hcl trivial (Ret_of rfl)
    ·(try rw [h4]); replace h4 := zcl h4
     exfalso; revert h4; decide
   ·rw [h3]; replace h3 := zcl h3
    exfalso; omega

theorem tTrimR_c (l : BL) (σ : List AO) (hl : l.length ≤ 1000000) : ACalls Tryz.prog 178 [.str (ba l), .str ⟨#[48]⟩] σ (Ret (.str (ba (cutR l))) σ) := by
 refine ACalls_body Tryz.func178 rfl Tryz.ntmps178 (res1 Tryz.results178) (Nat.le_of_ble_eq_true rfl) (fun hcl hal => ?_)
 have hbs : (ba l).size = l.length := ba_size l
 have hc1 : (ByteArray.mk #[48]).size = 1 := rfl
 refine zw1 ?_
 refine AWp_seq ?_
 refine zu3 ?_
 refine zsp 9 rfl (fun h1 => ?_) fun h1 => ?_
 ·rw [h1]; replace h1 := zcl h1
  refine zv3 ?_
  refine AWp_condT rfl ?_
  refine zw2 ?_
  refine zrt ?_
  rw [ba_nil.1 h1]
  exact ResQ_10 rfl hcl trivial (Ret_of rfl)
 ·rw [h1]; replace h1 := zcl h1
  refine zv3 ?_
  refine AWp_cond rfl (fun h2 => ?_) (fun h2 => ?_)
  ·(try rw [h2]); replace h2 := zcl h2
   exact absurd h2 (by decide)
  ·(try rw [h2]); replace h2 := zcl h2
   refine AWp_skip ?_
   refine AWp_seq ?_
   refine zu4 ?_
   refine zsp 17 rfl (fun h3 => ?_) fun h3 => ?_
   ·rw [h3]; replace h3 := zcl h3
    refine zv4 ?_
    refine AWp_cond rfl (fun h4 => ?_) (fun h4 => ?_)
    ·(try rw [h4]); replace h4 := zcl h4
     refine zu3 ?_
     refine zt rfl (zc rfl (trimRB_c l _ hl)) ?_
     refine zv1 ?_
     refine zrt ?_
     exact ResQ_10 rfl hcl trivial (Ret_of rfl)
    ·(try rw [h4]); replace h4 := zcl h4
     exfalso; revert h4; decide
   ·rw [h3]; replace h3 := zcl h3
    exfalso; omega

theorem pdig_c (l : BL) (σ : List AO) (hl : l.length ≤ 1000000) : ACalls Tryz.prog 200 [.str (ba l)] σ (Ret (.int .i64 ((l.takeWhile isD).length : Int)) σ) := by
 refine ACalls_body Tryz.func200 rfl Tryz.ntmps200 (res1 Tryz.results200) (Nat.le_of_ble_eq_true rfl) (fun hcl hal => ?_)
 have hbs : (ba l).size = l.length := ba_size l
 have hrr := runl_ba l
 have hrl := runl_le (ba l) 0
 refine zw1 ?_
 refine zw1 ?_
 refine AWp_seq ?_
 refine AWp_block ?_
 -- loop 0 LIVE 0:param 2:assign 3:assign
 refine AWp_loop (ι := Nat) (fun i => i + runl (ba l) i = runl (ba l) 0) (fun i => ⟨[], [(0, .str (ba l)), (3, .int .i64 (i : Int))]⟩) (fun i => σ) (fun i => (ba l).size - i) (0) (by simp) ?_ rfl (fun i hi => ?_)
 ·exact ⟨rfl, rfl, rfl, trivial⟩
 have hle := runl_le (ba l) i
 refine AWp_seq ?_
 refine zu5 ?_
 refine zsp 8 rfl (fun h1 => ?_) fun h1 => ?_
 ·rw [h1]; replace h1 := zcl h1
  refine zg6 ?_
  refine zsp 14 rfl (fun h2 => ?_) fun h2 => ?_
  ·rw [h2]; replace h2 := zcl h2
   refine zv5 ?_
   refine AWp_cond rfl (fun h3 => ?_) (fun h3 => ?_)
   ·(try rw [h3]); replace h3 := zcl h3
    refine AWp_skip ?_
    refine AWp_block ?_
    refine AWp_regL ?_
    refine zv3 ?_
    have hd : dig (ba l) i := by simp only [dig]; omega
    have hr := runl_yes (by omega) hd
    refine ⟨i + 1, σ.length, by omega, by omega, Nat.le_refl _, ⟨rfl, rfl, rfl, trivial⟩, hcl, ?_, List.take_length⟩
    simp [ltE, AV.lt]
   ·(try rw [h3]); replace h3 := zcl h3
    refine AWp_exit ?_
    refine zw2 ?_
    refine zrt ?_
    have hr := runl_no (b := ba l) (i := i) (by simp only [dig]; omega)
    refine ResQ_10 rfl hcl trivial (Ret_of ?_)
    congr 1; omega
  ·rw [h2]; replace h2 := zcl h2
   refine zv5 ?_
   refine AWp_condF rfl ?_
   refine AWp_exit ?_
   refine zw2 ?_
   refine zrt ?_
   have hr := runl_no (b := ba l) (i := i) (by simp only [dig]; omega)
   refine ResQ_10 rfl hcl trivial (Ret_of ?_)
   congr 1; omega
 ·rw [h1]; replace h1 := zcl h1
  refine zg10 ?_
  refine zg1 ?_
  refine zon ?_
  refine AWp_condF rfl ?_
  refine AWp_exit ?_
  refine zw2 ?_
  refine zrt ?_
  have hr := runl_no (b := ba l) (i := i) (by simp only [dig]; omega)
  refine ResQ_10 rfl hcl trivial (Ret_of ?_)
  congr 1; omega
end Lg
set_option maxRecDepth 20000
set_option maxHeartbeats 4000000
namespace Lg
open Go Go.Proofs Go.RowKit
variable [GLay] 
theorem sign_c (n : JNum) (σ : List AO) : ACalls Tryz.prog 119 [.agg (ncells n)] σ (Ret (.int .i64 (jsign n)) σ) := by
 refine ACalls_body Tryz.func119 rfl Tryz.ntmps119 (res1 Tryz.results119) (Nat.le_of_ble_eq_true rfl) (fun hcl hal => ?_)
 refine zw2 ?_
 refine AWp_seq ?_
 refine AWp_block ?_
 refine zw4 ?_
 refine AWp_cond rfl (fun h1 => ?_) (fun h1 => ?_)
 ·(try rw [h1]); replace h1 := zcl h1
  refine zw1 ?_
  refine zrt ?_
  refine ResQ_1 rfl hcl trivial (Ret_of ?_)
  congr 1; unfold jsign; first | (rw [if_pos (by assumption)]; done) | (rw [if_neg (by assumption), if_pos (by assumption)]; done) | (rw [if_neg (by assumption), if_neg (by simp [*])]; done)
 ·(try rw [h1]); replace h1 := zcl h1
  refine zw3 ?_
  refine AWp_cond rfl (fun h2 => ?_) (fun h2 => ?_)
  ·(try rw [h2]); replace h2 := zcl h2
   refine zw1 ?_
   refine zrt ?_
   refine ResQ_1 rfl hcl trivial (Ret_of ?_)
   congr 1; unfold jsign; first | (rw [if_pos (by assumption)]; done) | (rw [if_neg (by assumption), if_pos (by assumption)]; done) | (rw [if_neg (by assumption), if_neg (by simp [*])]; done)
  ·(try rw [h2]); replace h2 := zcl h2
   refine AWp_skip ?_
   refine zw1 ?_
   refine zrt ?_
   refine ResQ_1 rfl hcl trivial (Ret_of ?_)
   congr 1; unfold jsign; first | (rw [if_pos (by assumption)]; done) | (rw [if_neg (by assumption), if_pos (by assumption)]; done) | (rw [if_neg (by assumption), if_neg (by simp [*])]; done)

theorem nanI_c (a : Int) (σ : List AO) : ACalls Tryz.prog 153 [.int .i64 a] σ (Ret (.bool false) σ) := by
 refine ACalls_body Tryz.func153 rfl Tryz.ntmps153 (res1 Tryz.results153) (Nat.le_of_ble_eq_true rfl) (fun hcl hal => ?_)
 refine zw1 ?_
 refine zu2 ?_
 refine zt rfl (op_neqF rfl rfl rfl rfl) ?_
 refine zv1 ?_
 refine zrt ?_
 exact ResQ_10 rfl hcl (by simp [AV.lt, AV.ltL]) ⟨rfl, rfl⟩

theorem nanS_c (a : ByteArray) (σ : List AO) : ACalls Tryz.prog 154 [.str a] σ (Ret (.bool false) σ) := by
 refine ACalls_body Tryz.func154 rfl Tryz.ntmps154 (res1 Tryz.results154) (Nat.le_of_ble_eq_true rfl) (fun hcl hal => ?_)
 refine zw1 ?_
 refine zu2 ?_
 refine zt rfl (op_sneqF rfl rfl rfl rfl) ?_
 refine zv1 ?_
 refine zrt ?_
 exact ResQ_10 rfl hcl (by simp [AV.lt, AV.ltL]) ⟨rfl, rfl⟩

theorem cmpI_c (a b : Int) (σ : List AO) : ACalls Tryz.prog 120 [.int .i64 a, .int .i64 b] σ (Ret (.int .i64 (cmpI a b)) σ) := by
 refine ACalls_body Tryz.func120 rfl Tryz.ntmps120 (res1 Tryz.results120) (Nat.le_of_ble_eq_true rfl) (fun hcl hal => ?_)
 refine zw1 ?_
 refine zu1 ?_
 refine zt rfl (zc rfl (nanI_c _ _)) ?_
 refine zv1 ?_
 refine zu1 ?_
 refine zt rfl (zc rfl (nanI_c _ _)) ?_
 refine zv1 ?_
 refine AWp_seq ?_
 refine zw1 ?_
 refine AWp_condF rfl ?_
 refine AWp_skip ?_
 refine AWp_seq ?_
 refine zw1 ?_
 refine AWp_condF rfl ?_
 refine AWp_skip ?_
 refine AWp_seq ?_
 refine zw3 ?_
 refine AWp_cond rfl (fun h1 => ?_) (fun h1 => ?_)
 ·(try rw [h1]); replace h1 := zcl h1
  refine zw1 ?_
  refine zrt ?_
  refine ResQ_10 rfl hcl trivial (Ret_of ?_)
  congr 1; unfold cmpI; first | (rw [if_pos (by omega)]; done) | (rw [if_neg (by omega), if_pos (by omega)]; done) | (rw [if_neg (by omega), if_neg (by omega)]; done)
 ·(try rw [h1]); replace h1 := zcl h1
  refine AWp_skip ?_
  refine AWp_seq ?_
  refine zw3 ?_
  refine AWp_cond rfl (fun h2 => ?_) (fun h2 => ?_)
  ·(try rw [h2]); replace h2 := zcl h2
   refine zw1 ?_
   refine zrt ?_
   refine ResQ_10 rfl hcl trivial (Ret_of ?_)
   congr 1; unfold cmpI; first | (rw [if_pos (by omega)]; done) | (rw [if_neg (by omega), if_pos (by omega)]; done) | (rw [if_neg (by omega), if_neg (by omega)]; done)
  ·(try rw [h2]); replace h2 := zcl h2
   refine AWp_skip ?_
   refine zw1 ?_
   refine zrt ?_
   refine ResQ_10 rfl hcl trivial (Ret_of ?_)
   congr 1; unfold cmpI; first | (rw [if_pos (by omega)]; done) | (rw [if_neg (by omega), if_pos (by omega)]; done) | (rw [if_neg (by omega), if_neg (by omega)]; done)

theorem cmpS_c (a b : ByteArray) (σ : List AO) : ACalls Tryz.prog 122 [.str a, .str b] σ (Ret (.int .i64 (cmpS a b)) σ) := by
 refine ACalls_body Tryz.func122 rfl Tryz.ntmps122 (res1 Tryz.results122) (Nat.le_of_ble_eq_true rfl) (fun hcl hal => ?_)
 refine zw1 ?_
 refine zu1 ?_
 refine zt rfl (zc rfl (nanS_c _ _)) ?_
 refine zv1 ?_
 refine zu1 ?_
 refine zt rfl (zc rfl (nanS_c _ _)) ?_
 refine zv1 ?_
 refine AWp_seq ?_
 refine zw1 ?_
 refine AWp_condF rfl ?_
 refine AWp_skip ?_
 refine AWp_seq ?_
 refine zw1 ?_
 refine AWp_condF rfl ?_
 refine AWp_skip ?_
 refine AWp_seq ?_
 refine zw3 ?_
 refine AWp_cond rfl (fun h1 => ?_) (fun h1 => ?_)
 ·(try rw [h1]); replace h1 := zcl h1
  refine zw1 ?_
  refine zrt ?_
  refine ResQ_10 rfl hcl trivial (Ret_of ?_)
  congr 1; unfold cmpS; first | (rw [if_pos (by assumption)]; done) | (rw [if_neg (by simp [*]), if_pos (by assumption)]; done) | (rw [if_neg (by rw [h1]; simp), if_neg (by rw [h2]; simp)]; done)
 ·(try rw [h1]); replace h1 := zcl h1
  refine AWp_skip ?_
  refine AWp_seq ?_
  refine zw3 ?_
  refine AWp_cond rfl (fun h2 => ?_) (fun h2 => ?_)
  ·(try rw [h2]); replace h2 := zcl h2
   refine zw1 ?_
   refine zrt ?_
   refine ResQ_10 rfl hcl trivial (Ret_of ?_)
   congr 1; unfold cmpS; first | (rw [if_pos (by assumption)]; done) | (rw [if_neg (by simp [*]), if_pos (by assumption)]; done) | (rw [if_neg (by rw [h1]; simp), if_neg (by rw [h2]; simp)]; done)
  ·(try rw [h2]); replace h2 := zcl h2
   refine AWp_skip ?_
   refine zw1 ?_
   refine zrt ?_
   refine ResQ_10 rfl hcl trivial (Ret_of ?_)
   congr 1; unfold cmpS; first | (rw [if_pos (by assumption)]; done) | (rw [if_neg (by simp [*]), if_pos (by assumption)]; done) | (rw [if_neg (by rw [h1]; simp), if_neg (by rw [h2]; simp)]; done)

theorem two_row {a b : Int} {i : Nat} (h : i < 2) : [[AV.int .i64 a], [AV.int .i64 b]][i]? = some [.int .i64 (if i = 0 then a else b)] := by
  have : i = 0 ∨ i = 1 := by omega
  rcases this with rfl | rfl <;> rfl
theorem cmpOr_c (a b : Int) (σ : List AO) : ACalls Tryz.prog 121 [.sl true 1 [[.int .i64 a], [.int .i64 b]]] σ (Ret (.int .i64 (if a = 0 then b else a)) σ) := by
 refine ACalls_body Tryz.func121 rfl Tryz.ntmps121 (res1 Tryz.results121) (Nat.le_of_ble_eq_true rfl) (fun hcl hal => ?_)
 refine zw1 ?_
 refine zw1 ?_
 refine AWp_seq ?_
 refine zw3 ?_
 refine AWp_block ?_
 -- loop 0 LIVE 2:assign 3:assign 6:move 7:call 8:move
 refine AWp_loop (ι := Nat) (fun i => i ≤ 2 ∧ (1 ≤ i → a = 0) ∧ (2 ≤ i → b = 0)) (fun i => ⟨[], [(6, .sl true 1 [[.int .i64 a], [.int .i64 b]]), (3, .int .i64 0), (7, .int .i64 2), (8, .int .i64 (i : Int))]⟩) (fun i => σ) (fun i => 2 - i) (0) (⟨by omega, fun h => by omega, fun h => by omega⟩) ?_ rfl (fun i hi => ?_)
 ·exact ⟨rfl, rfl, rfl, rfl, rfl, trivial⟩
 obtain ⟨hi1, hi2, hi3⟩ := hi
 refine zw1 ?_
 refine AWp_seq ?_
 refine AWp_cond rfl (fun h1 => ?_) (fun h1 => ?_)
 ·(try rw [h1]); replace h1 := zcl h1
  refine AWp_skip ?_
  refine AWp_seq ?_
  refine AWp_block ?_
  refine zsr ?_
  refine zt rfl (op_indexAddr rfl Tryz.underlying44 Tryz.sizeOf3 rfl rfl (by omega) (two_row (by omega))) ?_
  refine zg2 ?_
  simp only [Int.toNat_natCast]
  refine zon ?_
  refine zw3 ?_
  refine AWp_cond rfl (fun h2 => ?_) (fun h2 => ?_)
  ·(try rw [h2]); replace h2 := zcl h2
   refine zw2 ?_
   refine zrt ?_
   refine ResQ_10 rfl hcl trivial (Ret_of ?_)
   congr 1
   by_cases e : i = 0
   ·rw [if_pos e] at h2 ⊢; rw [if_neg h2]
   ·rw [if_neg e] at h2 ⊢; rw [if_pos (hi2 (by omega))]
  ·(try rw [h2]); replace h2 := zcl h2
   refine AWp_skip ?_
   refine AWp_regL ?_
   refine zv2 ?_
   refine ⟨i + 1, σ.length, ⟨by omega, fun _ => ?_, fun _ => ?_⟩, by omega, Nat.le_refl _, ⟨rfl, rfl, rfl, rfl, rfl, trivial⟩, hcl, ?_, List.take_length⟩
   ·by_cases e : i = 0
    ·rw [if_pos e] at h2; exact h2
    ·exact hi2 (by omega)
   ·have e : ¬ i = 0 := by omega
    rw [if_neg e] at h2; exact h2
   ·simp [ltE, AV.lt, AV.ltL, AV.ltLL]
 ·(try rw [h1]); replace h1 := zcl h1
  refine AWp_exit ?_
  refine zw2 ?_
  refine zrt ?_
  refine ResQ_10 rfl hcl trivial (Ret_of ?_)
  congr 1; rw [if_pos (hi2 (by omega)), hi3 (by omega)]

theorem pcmp_c (a b : JNum) (σ : List AO) (ha : a.digits.size ≤ 1000000 ∧ -1000000 ≤ a.exp ∧ a.exp ≤ 1000000) (hb : b.digits.size ≤ 1000000 ∧ -1000000 ≤ b.exp ∧ b.exp ≤ 1000000) : ACalls Tryz.prog 75 [.agg (ncells a), .agg (ncells b)] σ (Ret (.int .i64 (pCmp a b)) σ) := by
 refine ACalls_body Tryz.func75 rfl Tryz.ntmps75 (res1 Tryz.results75) (Nat.le_of_ble_eq_true rfl) (fun hcl hal => ?_)
 have hja : jsign a = 0 ∨ jsign a = -1 ∨ jsign a = 1 := by unfold jsign; split <;> (try split) <;> simp
 have hcI : ∀ x y, cmpI x y = 0 ∨ cmpI x y = -1 ∨ cmpI x y = 1 := fun x y => by unfold cmpI; split <;> (try split) <;> simp
 have hcS : cmpS a.digits b.digits = 0 ∨ cmpS a.digits b.digits = -1 ∨ cmpS a.digits b.digits = 1 := by unfold cmpS; split <;> (try split) <;> simp
 have hc1 := hcI (a.digits.size + a.exp) (b.digits.size + b.exp)
 refine zw3 ?_
 refine zu1 ?_
 refine zt rfl (zc rfl (sign_c a _)) ?_
 refine zv1 ?_
 refine AWp_seq ?_
 refine zu2 ?_
 refine zt rfl (zc rfl (sign_c b _)) ?_
 refine zv1 ?_
 refine AWp_cond rfl (fun h1 => ?_) (fun h1 => ?_)
 ·(try rw [h1]); replace h1 := zcl h1
  refine zu2 ?_
  refine zt rfl (zc rfl (sign_c b _)) ?_
  refine zt rfl (zc rfl (cmpI_c (jsign a) (jsign b) _)) ?_
  refine zv1 ?_
  refine zrt ?_
  refine ResQ_1 rfl hcl trivial (Ret_of ?_)
  congr 1; unfold pCmp; rw [if_neg h1]
 ·(try rw [h1]); replace h1 := zcl h1
  refine AWp_skip ?_
  refine AWp_seq ?_
  refine AWp_drawL #[0, 0, 2, 6, 0, 16, 62, 0, 128, 384, 0, 1024, 3968, 8190, 0, 16384, 0, 65536, 262142, 524286, 1048574, 2097151, 4194303] Tryz.mixed (by decide +kernel) (by decide +kernel) ?_
  refine zd2 ?_
  refine zp1 ?_
  refine zd2 ?_
  refine zp1 ?_
  refine zd2 ?_
  refine zp1 ?_
  refine zd2 ?_
  refine zp1 ?_
  refine zd1 ?_
  refine yP rfl rfl (zc rfl (cmpI_c (a.digits.size + a.exp) (b.digits.size + b.exp) _)) (trivial) ?_
  refine zd1 ?_
  refine zp1 ?_
  refine zd1 ?_
  refine zp1 ?_
  refine yP rfl rfl (zc rfl (cmpS_c a.digits b.digits _)) (trivial) ?_
  refine yA rfl rfl (fun _ => op_buildSlice [[_], [_]] rfl Tryz.underlying44 Tryz.sizeOf3 Tryz.zeroValue3 rfl (by decide) (by decide) rfl rfl rfl rfl rfl) ?_
  refine yP rfl rfl (zc rfl (cmpOr_c (cmpI (a.digits.size + a.exp) (b.digits.size + b.exp)) (cmpS a.digits b.digits) _)) (trivial) ?_
  refine yA rfl rfl (fun _ => op_mul64 rfl rfl rfl (by rcases hja with h | h | h <;> rw [h] <;> split <;> omega) (by rcases hja with h | h | h <;> rw [h] <;> split <;> omega)) ?_
  refine zd1 ?_
  refine RP.nil rfl ?_
  refine zrt ?_
  refine ResQ_1 rfl hcl trivial (Ret_of ?_)
  congr 1; unfold pCmp; rw [if_pos h1]

theorem rwhole_c (n : JNum) (σ : List AO) : ACalls Tryz.prog 108 [.agg (ncells n)] σ (Ret (.bool (rWhole n)) σ) := by
 refine ACalls_body Tryz.func108 rfl Tryz.ntmps108 (res1 Tryz.results108) (Nat.le_of_ble_eq_true rfl) (fun hcl hal => ?_)
 refine zw2 ?_
 refine zu4 ?_
 refine zsp 6 rfl (fun h1 => ?_) fun h1 => ?_
 ·rw [h1]; replace h1 := zcl h1
  refine zv5 ?_
  refine zrt ?_
  refine ResQ_1 rfl hcl trivial (Ret_of ?_)
  congr 1; unfold rWhole; simp [*]
 ·rw [h1]; replace h1 := zcl h1
  refine zv5 ?_
  refine zrt ?_
  refine ResQ_1 rfl hcl trivial (Ret_of ?_)
  congr 1; unfold rWhole; simp [*]

end Lg
set_option maxRecDepth 20000
set_option maxHeartbeats 4000000
namespace Lg
open Go Go.Proofs Go.RowKit
variable [GLay] 
theorem ritoaP (m : Nat) : ∀ (n : Int) (σ : List AO), 0 ≤ n → n < m → n ≤ 9223372036854775807 → ACalls Tryz.prog 127 [.int .i64 n] σ (Ret (.str (itoaB n)) σ) := by
 induction m with
 | zero => intro n σ h1 h2 h3; omega
 | succ m ih =>
 intro n σ hn1 hn2 hn3
 refine ACalls_body Tryz.func127 rfl Tryz.ntmps127 (res1 Tryz.results127) (Nat.le_of_ble_eq_true rfl) (fun hcl hal => ?_)
 have h1s : ∀ x, (ByteArray.mk #[x]).size = 1 := fun x => rfl
 have hsz := itoa_size (n := n / 10) (by omega) (by omega)
 have hsz2 := itoa_size (n := -n) (by omega) (by omega)
 have hs3 := h1s (u8b (48 + n % 10))
 have hs4 := h1s 45
 refine zw1 ?_
 refine AWp_seq ?_
 refine zw2 ?_
 refine AWp_cond rfl (fun h1 => ?_) (fun h1 => ?_)
 ·(try rw [h1]); replace h1 := zcl h1
  exfalso; omega
 ·(try rw [h1]); replace h1 := zcl h1
  refine AWp_skip ?_
  refine AWp_seq ?_
  refine zw2 ?_
  refine AWp_cond rfl (fun h2 => ?_) (fun h2 => ?_)
  ·(try rw [h2]); replace h2 := zcl h2
   refine zu3 ?_
   refine zt rfl (op_buildSlice [[_]] rfl Tryz.underlying146 Tryz.sizeOf5 Tryz.zeroValue5 rfl (by decide) (by decide) rfl rfl rfl rfl rfl) ?_
   refine zt rfl (op_bytesStr (b := _) (m := 1) rfl Tryz.underlying146 Tryz.underlying5 Tryz.underlying9 (bs1 ⟨by omega, by omega⟩) rfl rfl) ?_
   refine zv1 ?_
   refine zrt ?_
   rw [itoa_small (by omega) h2]
   exact ResQ_10 rfl hcl trivial (Ret_of rfl)
  ·(try rw [h2]); replace h2 := zcl h2
   refine AWp_skip ?_
   refine AWp_seq ?_
   refine AWp_drawL #[0, 1, 3, 0, 8, 24, 56, 120, 248, 511, 1023] Tryz.mixed (by decide +kernel) (by decide +kernel) ?_
   refine zd1 ?_
   refine yA rfl rfl (fun _ => op_quo64 rfl rfl rfl (by omega) (by omega) (by omega)) ?_
   refine yP rfl rfl (zc rfl (ih (n / 10) _ (by omega) (by omega) (by omega))) (trivial) ?_
   refine zd1 ?_
   refine yA rfl rfl (fun _ => op_rem64 rfl rfl rfl (by omega) (by omega)) ?_
   refine zd2 ?_
   refine yA rfl rfl (fun _ => op_buildSlice [[_]] rfl Tryz.underlying146 Tryz.sizeOf5 Tryz.zeroValue5 rfl (by decide) (by decide) rfl rfl rfl rfl rfl) ?_
   refine yA rfl rfl (fun _ => op_bytesStr (b := _) (m := 1) rfl Tryz.underlying146 Tryz.underlying5 Tryz.underlying9 (bs1 ⟨by omega, by omega⟩) rfl rfl) ?_
   refine zd2 ?_
   refine RP.nil rfl ?_
   refine zrt ?_
   rw [itoa_big (by omega)]
   exact ResQ_10 rfl hcl trivial (Ret_of rfl)

theorem ritoa_c (n : Int) (σ : List AO) (hn3 : -9223372036854775807 ≤ n) (hn4 : n ≤ 9223372036854775807) : ACalls Tryz.prog 127 [.int .i64 n] σ (Ret (.str (itoaB n)) σ) := by
 refine ACalls_body Tryz.func127 rfl Tryz.ntmps127 (res1 Tryz.results127) (Nat.le_of_ble_eq_true rfl) (fun hcl hal => ?_)
 have h1s : ∀ x, (ByteArray.mk #[x]).size = 1 := fun x => rfl
 have hsz := itoa_size (n := n / 10) (by omega) (by omega)
 have hsz2 := itoa_size (n := -n) (by omega) (by omega)
 have hs3 := h1s (u8b (48 + n % 10))
 have hs4 := h1s 45
 refine zw1 ?_
 refine AWp_seq ?_
 refine zw2 ?_
 refine AWp_cond rfl (fun h1 => ?_) (fun h1 => ?_)
 ·(try rw [h1]); replace h1 := zcl h1
  refine zu1 ?_
  refine zt rfl (op_neg64 rfl rfl (by omega) (by omega)) ?_
  refine zt rfl (zc rfl (ritoaP ((-n).toNat + 1) (-n) _ (by omega) (by omega) (by omega))) ?_
  refine zv2 ?_
  refine zrt ?_
  rw [itoa_neg h1]
  exact ResQ_10 rfl hcl trivial (Ret_of rfl)
 ·(try rw [h1]); replace h1 := zcl h1
  refine AWp_skip ?_
  refine AWp_seq ?_
  refine zw2 ?_
  refine AWp_cond rfl (fun h2 => ?_) (fun h2 => ?_)
  ·(try rw [h2]); replace h2 := zcl h2
   refine zu3 ?_
   refine zt rfl (op_buildSlice [[_]] rfl Tryz.underlying146 Tryz.sizeOf5 Tryz.zeroValue5 rfl (by decide) (by decide) rfl rfl rfl rfl rfl) ?_
   refine zt rfl (op_bytesStr (b := _) (m := 1) rfl Tryz.underlying146 Tryz.underlying5 Tryz.underlying9 (bs1 ⟨by omega, by omega⟩) rfl rfl) ?_
   refine zv1 ?_
   refine zrt ?_
   rw [itoa_small (by omega) h2]
   exact ResQ_10 rfl hcl trivial (Ret_of rfl)
  ·(try rw [h2]); replace h2 := zcl h2
   refine AWp_skip ?_
   refine AWp_seq ?_
   refine AWp_drawL #[0, 1, 3, 0, 8, 24, 56, 120, 248, 511, 1023] Tryz.mixed (by decide +kernel) (by decide +kernel) ?_
   refine zd1 ?_
   refine yA rfl rfl (fun _ => op_quo64 rfl rfl rfl (by omega) (by omega) (by omega)) ?_
   refine yP rfl rfl (zc rfl (ritoaP ((n / 10).toNat + 1) (n / 10) _ (by omega) (by omega) (by omega))) (trivial) ?_
   refine zd1 ?_
   refine yA rfl rfl (fun _ => op_rem64 rfl rfl rfl (by omega) (by omega)) ?_
   refine zd2 ?_
   refine yA rfl rfl (fun _ => op_buildSlice [[_]] rfl Tryz.underlying146 Tryz.sizeOf5 Tryz.zeroValue5 rfl (by decide) (by decide) rfl rfl rfl rfl rfl) ?_
   refine yA rfl rfl (fun _ => op_bytesStr (b := _) (m := 1) rfl Tryz.underlying146 Tryz.underlying5 Tryz.underlying9 (bs1 ⟨by omega, by omega⟩) rfl rfl) ?_
   refine zd2 ?_
   refine RP.nil rfl ?_
   refine zrt ?_
   rw [itoa_big (by omega)]
   exact ResQ_10 rfl hcl trivial (Ret_of rfl)


end Lg
