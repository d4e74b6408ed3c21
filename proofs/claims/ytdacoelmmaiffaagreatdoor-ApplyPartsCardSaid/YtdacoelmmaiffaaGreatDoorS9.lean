/- A part of the proof of For every input the law doubletlaw09.ApplyParts returns true: a patch's beginning, and then the rest, is the patch: the same value, or the same error at the same operation; the value stays as it is; a test of what is there changes nothing; the input reads as it did.: W20 W17 W21 W22 X5 Y14 Lt4 Lt5 Y15 Y16 Lg50 Lg51 Lg52 Lg56 J2 S1 B1 B2 B3 Lq2 B4 Sq. -/
import Derived.Test.YtdacoelmmaiffaaGreatDoorS8
import Derived.Test.YtdacoelmmaiffaaGreatDoorS7
import Derived.Test.YtdacoelmmaiffaaGreatDoorS5
import Derived.Test.YtdacoelmmaiffaaGreatDoorS4
import Derived.Test.YtdacoelmmaiffaaGreatDoorS6
import Derived.Test.YtdacoelmmaiffaaGreatDoorS3
import Derived.Test.YtdacoelmmaiffaaGreatDoorS2
set_option linter.unusedVariables false
set_option linter.unusedSimpArgs false
set_option linter.unusedSectionVars false
set_option maxRecDepth 20000
set_option maxHeartbeats 4000000
namespace Lg
open Go Go.Proofs Go.RowKit
variable [GLay] 
theorem object_r (s : ByteArray) (n : Nat) (ih : ∀ (t : RS) (p : Nat) (τ : List AO), τ[p]? = some (rbox s t) → ROK s t → s.size + 1 < n + t.a → ACalls Tryz.prog 61 [.ptr p 0] τ (Ret (.agg (vcells (rval n s t).1)) (τ.set p (rbox s (rval n s t).2)))) (r : RS) (p : Nat) (σ : List AO) (hσ : σ[p]? = some (rbox s r)) (hs : s.size ≤ 100000) (h : ROK s r) (hb : r.bad = 0) (ha : r.a < s.size) (hn : s.size + 1 < n + r.a + 1) : ACalls Tryz.prog 90 [.ptr p 0] σ (Ret (.agg (vcells (robj (rval n s) s r).1)) (σ.set p (rbox s (robj (rval n s) s r).2))) := by
 have hp : p < σ.length := (List.getElem?_eq_some_iff.1 hσ).1
 have ho := ropen_to h hb ha
 have hd0 := h.d0
 have hd1 := h.d1
 refine ACalls_bodyC Tryz.func90 rfl Tryz.ntmps90 (by rw [Tryz.results90]; exact (.ck Tryz.isAgg28 Tryz.sizeOf28 .nil)) (Nat.le_of_ble_eq_true rfl) (fun hcl hal => ?_)
 refine AWp_heap (set_same hσ) ?_
 refine zw1 ?_
 refine zw3 ?_
 refine AWp_seq ?_
 refine AWp_boxLeS 1 (bs' := [.int .i64 5, .bool false, .bool false, .str e0, .int .i64 0, .str e0, .sl false 8 (lcells []), .sl false 9 (mcells [])]) rfl ⟨AVle.refl _, AVle.refl _, AVle.refl _, AVle.refl _, AVle.refl _, AVle.refl _, nilL, nilM, trivial⟩ ?_
 refine AWp_regL ?_
 refine zg1 ?_
 refine zt rfl (zc rfl (callSA hp (open_r s r p _ (get_setA hp) hs h))) ?_
 refine zon ?_
 refine AWp_joinB (ι := List (ByteArray × JV) × RS × List AO) (fun z => robjF (rval n s) s (s.size + 2) [] (ropen s r) = (z.1, z.2.1) ∧ ROK s z.2.1 ∧ r.a + 1 ≤ z.2.1.a) (fun z => ⟨[], [(0, .ptr p 0), (2, .ptr (σ.length + 0) 0), (3, .ptr (σ.length + 1) 0)]⟩) (fun z => σ.set p (rbox s z.2.1) ++ ([.box [.int .i64 0, .bool false, .bool false, .str e0, .int .i64 0, .str e0, .nils, .nils], .box [.int .i64 5, .bool false, .bool false, .str e0, .int .i64 0, .str e0, .sl false 8 (lcells []), .sl false 9 (mcells z.1)]] ++ z.2.2)) ?_ (fun z hz => ?_)
 ·skip
  -- loop 0 LIVE 0:param 2:alloc 3:alloc
  refine AWp_loop (ι := Nat × List (ByteArray × JV) × RS) (fun q => robjF (rval n s) s q.1 q.2.1 q.2.2 = robjF (rval n s) s (s.size + 2) [] (ropen s r) ∧ ROK s q.2.2 ∧ msize q.2.1 ≤ q.2.2.a ∧ s.size + 2 ≤ q.1 + q.2.2.a ∧ r.a + 1 ≤ q.2.2.a) (fun q => ⟨[], [(0, .ptr p 0), (2, .ptr (σ.length + 0) 0), (3, .ptr (σ.length + 1) 0)]⟩) (fun q => σ.set p (rbox s q.2.2) ++ [.box [.int .i64 0, .bool false, .bool false, .str e0, .int .i64 0, .str e0, .nils, .nils], .box [.int .i64 5, .bool false, .bool false, .str e0, .int .i64 0, .str e0, .sl false 8 (lcells []), .sl false 9 (mcells q.2.1)]]) (fun q => q.1) ((s.size + 2, [], ropen s r)) (⟨rfl, ho.1.ok, by simp only [msize]; omega, by simp only; omega, ho.2.1⟩) ?_ rfl (fun q hq => ?_)
  ·exact ⟨rfl, rfl, rfl, rfl, trivial⟩
  obtain ⟨k, m, t⟩ := q
  obtain ⟨hq1, hq2, hq3, hq4, hq5⟩ := hq
  simp only at hq1 hq2 hq3 hq4 hq5 ⊢
  have hta := hq2.a
  have hll := mlen_le m
  have hlc := mcells_length m
  obtain ⟨k, rfl⟩ : ∃ k', k = k' + 1 := ⟨k - 1, by omega⟩
  refine AWp_join (ι := Unit) (fun b => t.bad = 0 ∧ (¬ pkv s t.a t.bad = 125 ∨ 0 < m.length)) (fun b => ⟨[], [(0, .ptr p 0), (2, .ptr (σ.length + 0) 0), (3, .ptr (σ.length + 1) 0)]⟩) (fun b => σ.set p (rbox s t) ++ [.box [.int .i64 0, .bool false, .bool false, .str e0, .int .i64 0, .str e0, .nils, .nils], .box [.int .i64 5, .bool false, .bool false, .str e0, .int .i64 0, .str e0, .sl false 8 (lcells []), .sl false 9 (mcells m)]]) ?_ (fun b hj => ?_)
  ·skip
   refine zu6 ?_
   refine zsp 19 rfl (fun h1 => ?_) fun h1 => ?_
   ·rw [h1]; (try simp only [decide_eq_true_eq, decide_eq_false_iff_not, Bool.not_eq_true', Bool.not_eq_false', Int.not_lt, Int.not_le, Bool.not_true, Bool.not_false, Int.toNat_natCast, tn1, tn2, tnn, bne_iff_ne, beq_iff_eq, beq_eq_false_iff_ne, ne_eq, Decidable.not_not] at h1)
    refine zg1 ?_
    refine ztG rfl rfl (zc rfl (peek_r s t p _ (get_setA hp))) ?_
    refine zg2 ?_
    refine zsp 23 rfl (fun h2 => ?_) fun h2 => ?_
    ·rw [h2]; (try simp only [decide_eq_true_eq, decide_eq_false_iff_not, Bool.not_eq_true', Bool.not_eq_false', Int.not_lt, Int.not_le, Bool.not_true, Bool.not_false, Int.toNat_natCast, tn1, tn2, tnn, bne_iff_ne, beq_iff_eq, beq_eq_false_iff_ne, ne_eq, Decidable.not_not] at h2)
     refine zv6 ?_
     refine AWp_condT rfl ?_
     refine AWp_skip ?_
     exact ⟨(), ⟨by omega, by omega⟩, ⟨rfl, rfl, rfl, rfl, trivial⟩, rfl⟩
    ·rw [h2]; (try simp only [decide_eq_true_eq, decide_eq_false_iff_not, Bool.not_eq_true', Bool.not_eq_false', Int.not_lt, Int.not_le, Bool.not_true, Bool.not_false, Int.toNat_natCast, tn1, tn2, tnn, bne_iff_ne, beq_iff_eq, beq_eq_false_iff_ne, ne_eq, Decidable.not_not] at h2)
     refine zv6 ?_
     refine AWp_cond rfl (fun h3 => ?_) (fun h3 => ?_)
     ·(try rw [h3]); (try simp only [decide_eq_true_eq, decide_eq_false_iff_not, Bool.not_eq_true', Bool.not_eq_false', Int.not_lt, Int.not_le, Bool.not_true, Bool.not_false, Int.toNat_natCast, tn1, tn2, tnn, bne_iff_ne, beq_iff_eq, beq_eq_false_iff_ne, ne_eq, Decidable.not_not] at h3)
      refine AWp_skip ?_
      exact ⟨(), ⟨by omega, by omega⟩, ⟨rfl, rfl, rfl, rfl, trivial⟩, rfl⟩
     ·(try rw [h3]); (try simp only [decide_eq_true_eq, decide_eq_false_iff_not, Bool.not_eq_true', Bool.not_eq_false', Int.not_lt, Int.not_le, Bool.not_true, Bool.not_false, Int.toNat_natCast, tn1, tn2, tnn, bne_iff_ne, beq_iff_eq, beq_eq_false_iff_ne, ne_eq, Decidable.not_not] at h3)
      refine AWp_exit ?_
      show ∃ z : List (ByteArray × JV) × RS × List AO, _ ∧ _ ∧ _
      exact ⟨(m, t, []), ⟨by rw [← hq1, robjF, if_neg (by omega)], hq2, hq5⟩, ⟨rfl, rfl, rfl, rfl, trivial⟩, rfl⟩
   ·rw [h1]; (try simp only [decide_eq_true_eq, decide_eq_false_iff_not, Bool.not_eq_true', Bool.not_eq_false', Int.not_lt, Int.not_le, Bool.not_true, Bool.not_false, Int.toNat_natCast, tn1, tn2, tnn, bne_iff_ne, beq_iff_eq, beq_eq_false_iff_ne, ne_eq, Decidable.not_not] at h1)
    refine zg10 ?_
    refine zon ?_
    refine AWp_condF rfl ?_
    refine AWp_exit ?_
    show ∃ z : List (ByteArray × JV) × RS × List AO, _ ∧ _ ∧ _
    exact ⟨(m, t, []), ⟨by rw [← hq1, robjF, if_neg (by omega)], hq2, hq5⟩, ⟨rfl, rfl, rfl, rfl, trivial⟩, rfl⟩
  ·skip
   obtain ⟨htb, htp⟩ := hj
   refine AWp_block ?_
   refine AWp_seq ?_
   have hb1 := rblank_to hq2
   have ht1 := rtext_to hb1.ok
   have hk2 := rk2_ok (m := m) hq2
   have hb2 := rblank_to hk2.1.ok
   have hk3 := rkey_ok (rv := rval n s) (fun r h => rval_ok hs n r h) (m := m) hq2
   have hka := hk3.1.a
   have hku := hk3.1.ok.a
   have hkd := hk3.2.2.1
   refine AWp_regL ?_
   refine zg1 ?_
   refine zt rfl (zc rfl (callSA hp (blank_r s t p _ (get_setA hp) hs hq2))) ?_
   refine zon ?_
   refine zw5 ?_
   refine zu1 ?_
   refine zt rfl (zc rfl (callSA hp (text_r s (rblank s t) p _ (get_setA hp) hs hb1.ok))) ?_
   refine zv1 ?_
   refine zu2 ?_
   refine zt rfl (zc rfl ((by have hfd := FindR.ret (rfind_c (mkO m) (rtext s (rblank s t)).1 (σ.set p (rbox s (rtext s (rblank s t)).2) ++ [.box [.int .i64 0, .bool false, .bool false, .str e0, .int .i64 0, .str e0, .nils, .nils], .box [.int .i64 5, .bool false, .bool false, .str e0, .int .i64 0, .str e0, .sl false 8 (lcells []), .sl false 9 (mcells m)]]) (by show m.length ≤ _; omega)); rw [vcells_eq (mkO m)] at hfd; exact hfd))) ?_
   rw [vcells_eq ((jfind (mkO m) (rtext s (rblank s t)).1).getD vz)]
   refine zv6 ?_
   refine AWp_join (ι := Unit) (fun b => True) (fun b => ⟨[], [(0, .ptr p 0), (2, .ptr (σ.length + 0) 0), (3, .ptr (σ.length + 1) 0), (5, .str (rtext s (rblank s t)).1)]⟩) (fun b => σ.set p (rbox s (rk2 s m t)) ++ [.box [.int .i64 0, .bool false, .bool false, .str e0, .int .i64 0, .str e0, .nils, .nils], .box [.int .i64 5, .bool false, .bool false, .str e0, .int .i64 0, .str e0, .sl false 8 (lcells []), .sl false 9 (mcells m)], .box [.int .i64 ((jfind (mkO m) (rtext s (rblank s t)).1).getD vz).kind, .bool ((jfind (mkO m) (rtext s (rblank s t)).1).getD vz).b, .bool ((jfind (mkO m) (rtext s (rblank s t)).1).getD vz).n.neg, .str ((jfind (mkO m) (rtext s (rblank s t)).1).getD vz).n.digits, .int .i64 ((jfind (mkO m) (rtext s (rblank s t)).1).getD vz).n.exp, .str ((jfind (mkO m) (rtext s (rblank s t)).1).getD vz).s, .sl false 8 (lcells ((jfind (mkO m) (rtext s (rblank s t)).1).getD vz).l), .sl false 9 (mcells ((jfind (mkO m) (rtext s (rblank s t)).1).getD vz).m)]]) ?_ (fun b hj => ?_)
   ·skip
    refine zw1 ?_
    refine AWp_cond rfl (fun h4 => ?_) (fun h4 => ?_)
    ·(try rw [h4]); (try simp only [decide_eq_true_eq, decide_eq_false_iff_not, Bool.not_eq_true', Bool.not_eq_false', Int.not_lt, Int.not_le, Bool.not_true, Bool.not_false, Int.toNat_natCast, tn1, tn2, tnn, bne_iff_ne, beq_iff_eq, beq_eq_false_iff_ne, ne_eq, Decidable.not_not] at h4)
     refine AWp_regL ?_
     refine zg2 ?_
     refine zt rfl (zc rfl (callSA hp (fail_r s (rtext s (rblank s t)).2 p _ (get_setA hp) ((rblank s t).a : Int) 4))) ?_
     refine zon ?_
     refine ⟨(), trivial, ⟨rfl, rfl, rfl, rfl, rfl, trivial⟩, ?_⟩
     unfold rk2; first | (rw [if_pos (by assumption)]; rfl) | (rw [if_neg (by simp only [Bool.not_eq_true]; assumption)]; rfl) | rfl
    ·(try rw [h4]); (try simp only [decide_eq_true_eq, decide_eq_false_iff_not, Bool.not_eq_true', Bool.not_eq_false', Int.not_lt, Int.not_le, Bool.not_true, Bool.not_false, Int.toNat_natCast, tn1, tn2, tnn, bne_iff_ne, beq_iff_eq, beq_eq_false_iff_ne, ne_eq, Decidable.not_not] at h4)
     refine AWp_skip ?_
     refine ⟨(), trivial, ⟨rfl, rfl, rfl, rfl, rfl, trivial⟩, ?_⟩
     unfold rk2; first | (rw [if_pos (by assumption)]; rfl) | (rw [if_neg (by simp only [Bool.not_eq_true]; assumption)]; rfl) | rfl
   ·skip
    refine zu1 ?_
    refine zt rfl (zc rfl (callSA hp (blank_r s (rk2 s m t) p _ (get_setA hp) hs hk2.1.ok))) ?_
    refine zon ?_
    refine zu1 ?_
    refine zt rfl (zc rfl (callSA hp (want_c rb3 s (rblank s (rk2 s m t)) p _ (get_setA hp) hs (by decide) hb2.ok))) ?_
    refine zon ?_
    refine zu1 ?_
    refine zt rfl (zc rfl (callSA hp (ih (rkey s m t).2 p _ (get_setA hp) hk3.1.ok (by omega)))) ?_
    have hv := rval_ok hs n (rkey s m t).2 hk3.1.ok
    have hva := hv.fwd.a
    have hvk := hv.fwd.ok
    have hua := hv.fwd.ok.a
    have hvs := hv.size
    clear hv
    generalize hx1 : (rval n s (rkey s m t).2).1 = v at hvs ⊢
    generalize hx2 : (rval n s (rkey s m t).2).2 = u at hva hvk hua hvs ⊢
    have hl5 := msize_ins m (rkey s m t).1 v
    rw [vcells_eq v]
    refine zv2 ?_
    refine zw1 ?_
    refine AWp_joinB (ι := Nat) (fun j => rinsK m (rtext s (rblank s t)).1 = j ∧ j ≤ m.length) (fun j => ⟨[], [(0, .ptr p 0), (2, .ptr (σ.length + 0) 0), (3, .ptr (σ.length + 1) 0), (5, .str (rtext s (rblank s t)).1), (8, .ptr (σ.length + 3) 0), (9, .int .i64 (j : Int))]⟩) (fun j => σ.set p (rbox s u) ++ [.box [.int .i64 0, .bool false, .bool false, .str e0, .int .i64 0, .str e0, .nils, .nils], .box [.int .i64 5, .bool false, .bool false, .str e0, .int .i64 0, .str e0, .sl false 8 (lcells []), .sl false 9 (mcells m)], .box [.int .i64 ((jfind (mkO m) (rtext s (rblank s t)).1).getD vz).kind, .bool ((jfind (mkO m) (rtext s (rblank s t)).1).getD vz).b, .bool ((jfind (mkO m) (rtext s (rblank s t)).1).getD vz).n.neg, .str ((jfind (mkO m) (rtext s (rblank s t)).1).getD vz).n.digits, .int .i64 ((jfind (mkO m) (rtext s (rblank s t)).1).getD vz).n.exp, .str ((jfind (mkO m) (rtext s (rblank s t)).1).getD vz).s, .sl false 8 (lcells ((jfind (mkO m) (rtext s (rblank s t)).1).getD vz).l), .sl false 9 (mcells ((jfind (mkO m) (rtext s (rblank s t)).1).getD vz).m)], .box [.int .i64 v.kind, .bool v.b, .bool v.n.neg, .str v.n.digits, .int .i64 v.n.exp, .str v.s, .sl false 8 (lcells v.l), .sl false 9 (mcells v.m)]]) ?_ (fun j hz => ?_)
    ·skip
     -- loop 1 LIVE 0:param 2:alloc 3:alloc 5:assign 8:alloc 9:assign
     refine AWp_loop (ι := Nat) (fun j => j ≤ m.length ∧ rinsK m (rtext s (rblank s t)).1 = j + rinsK (m.drop j) (rtext s (rblank s t)).1) (fun j => ⟨[], [(0, .ptr p 0), (2, .ptr (σ.length + 0) 0), (3, .ptr (σ.length + 1) 0), (5, .str (rtext s (rblank s t)).1), (8, .ptr (σ.length + 3) 0), (9, .int .i64 (j : Int))]⟩) (fun j => σ.set p (rbox s u) ++ [.box [.int .i64 0, .bool false, .bool false, .str e0, .int .i64 0, .str e0, .nils, .nils], .box [.int .i64 5, .bool false, .bool false, .str e0, .int .i64 0, .str e0, .sl false 8 (lcells []), .sl false 9 (mcells m)], .box [.int .i64 ((jfind (mkO m) (rtext s (rblank s t)).1).getD vz).kind, .bool ((jfind (mkO m) (rtext s (rblank s t)).1).getD vz).b, .bool ((jfind (mkO m) (rtext s (rblank s t)).1).getD vz).n.neg, .str ((jfind (mkO m) (rtext s (rblank s t)).1).getD vz).n.digits, .int .i64 ((jfind (mkO m) (rtext s (rblank s t)).1).getD vz).n.exp, .str ((jfind (mkO m) (rtext s (rblank s t)).1).getD vz).s, .sl false 8 (lcells ((jfind (mkO m) (rtext s (rblank s t)).1).getD vz).l), .sl false 9 (mcells ((jfind (mkO m) (rtext s (rblank s t)).1).getD vz).m)], .box [.int .i64 v.kind, .bool v.b, .bool v.n.neg, .str v.n.digits, .int .i64 v.n.exp, .str v.s, .sl false 8 (lcells v.l), .sl false 9 (mcells v.m)]]) (fun j => m.length - j) (0) (⟨Nat.zero_le _, by simp⟩) ?_ rfl (fun j hj => ?_)
     ·exact ⟨rfl, rfl, rfl, rfl, rfl, rfl, rfl, trivial⟩
     obtain ⟨hj1, hj2⟩ := hj
     refine AWp_seq ?_
     refine zu6 ?_
     refine zsp 59 rfl (fun h5 => ?_) fun h5 => ?_
     ·rw [h5]; (try simp only [decide_eq_true_eq, decide_eq_false_iff_not, Bool.not_eq_true', Bool.not_eq_false', Int.not_lt, Int.not_le, Bool.not_true, Bool.not_false, Int.toNat_natCast, tn1, tn2, tnn, bne_iff_ne, beq_iff_eq, beq_eq_false_iff_ne, ne_eq, Decidable.not_not] at h5)
      obtain ⟨q, hq⟩ : ∃ q, m[j]? = some q := ⟨_, List.getElem?_eq_getElem (show j < m.length by omega)⟩
      refine zv9 ?_
      refine AWp_cond rfl (fun h6 => ?_) (fun h6 => ?_)
      ·(try rw [h6]); (try simp only [decide_eq_true_eq, decide_eq_false_iff_not, Bool.not_eq_true', Bool.not_eq_false', Int.not_lt, Int.not_le, Bool.not_true, Bool.not_false, Int.toNat_natCast, tn1, tn2, tnn, bne_iff_ne, beq_iff_eq, beq_eq_false_iff_ne, ne_eq, Decidable.not_not] at h6)
       refine AWp_skip ?_
       refine AWp_block ?_
       refine AWp_regL ?_
       refine zv3 ?_
       refine ⟨j + 1, σ.length + 4, ⟨by omega, by rw [hj2, rinsK_yes hq h6]; omega⟩, by omega, by simp, ⟨rfl, rfl, rfl, rfl, rfl, rfl, rfl, trivial⟩, closed_ownS (x := rbox s u) 4 hcl (by simp [AO.cells, AV.ltL, AV.lt]) ?_, ?_, take_ownS 4⟩
       ·simp [ownLt, AO.cells, AV.ltL, AV.lt]
       ·simp [ltE, AV.lt]; omega
      ·(try rw [h6]); (try simp only [decide_eq_true_eq, decide_eq_false_iff_not, Bool.not_eq_true', Bool.not_eq_false', Int.not_lt, Int.not_le, Bool.not_true, Bool.not_false, Int.toNat_natCast, tn1, tn2, tnn, bne_iff_ne, beq_iff_eq, beq_eq_false_iff_ne, ne_eq, Decidable.not_not] at h6)
       refine AWp_exit ?_
       show ∃ z : Nat, _ ∧ _ ∧ _
       exact ⟨j, ⟨by rw [hj2, rinsK_no hq (by assumption)]; rfl, hj1⟩, ⟨rfl, rfl, rfl, rfl, rfl, rfl, rfl, trivial⟩, rfl⟩
     ·rw [h5]; (try simp only [decide_eq_true_eq, decide_eq_false_iff_not, Bool.not_eq_true', Bool.not_eq_false', Int.not_lt, Int.not_le, Bool.not_true, Bool.not_false, Int.toNat_natCast, tn1, tn2, tnn, bne_iff_ne, beq_iff_eq, beq_eq_false_iff_ne, ne_eq, Decidable.not_not] at h5)
      refine zv9 ?_
      refine AWp_condF rfl ?_
      refine AWp_exit ?_
      show ∃ z : Nat, _ ∧ _ ∧ _
      exact ⟨j, ⟨by rw [hj2, rinsK_end (by omega)]; rfl, hj1⟩, ⟨rfl, rfl, rfl, rfl, rfl, rfl, rfl, trivial⟩, rfl⟩
    ·skip
     obtain ⟨hkk, hj1⟩ := hz
     have htl : (m.take j).length = j := by rw [List.length_take]; omega
     have hdl : (m.drop j).length = m.length - j := List.length_drop ..
     have hrow : mrow ((rtext s (rblank s t)).1, v) = [.str (rtext s (rblank s t)).1, .int .i64 v.kind, .bool v.b, .bool v.n.neg, .str v.n.digits, .int .i64 v.n.exp, .str v.s, .sl false 8 (lcells v.l), .sl false 9 (mcells v.m)] := by rw [mrow, vcells_eq]
     refine AWp_seq ?_
     refine AWp_drawL #[0, 0, 3, 7, 0, 16, 0, 112, 255, 511] Tryz.mixed (by decide +kernel) (by decide +kernel) ?_
     refine zd1 ?_
     refine zp1 ?_
     refine zd1 ?_
     refine yE rfl rfl (op_buildSliceArrT len_set (n := 4) (cs := [.str (rtext s (rblank s t)).1, .int .i64 v.kind, .bool v.b, .bool v.n.neg, .str v.n.digits, .int .i64 v.n.exp, .str v.s, .sl false 8 (lcells v.l), .sl false 9 (mcells v.m)]) rfl rfl (op_buildSliceArr rfl Tryz.underlying26 Tryz.sizeOf64 Tryz.zeroValue64 rfl (by decide) (by decide) rfl rfl rfl)) (⟨.inl rfl, trivial⟩) (trivial) ?_
     refine zd1 ?_
     refine yP rfl rfl (zoa) (⟨.inr (op_load1 rfl Tryz.isAgg26 (ldv_ownS rfl rfl)), trivial⟩) ?_
     refine zd1 ?_
     refine yA rfl rfl (fun _ => (by first | exact op_sliceSl _ _ rfl Tryz.underlying26 Tryz.sizeOf64 rfl (by first | exact ⟨_, rfl⟩ | rfl) (by first | exact ⟨_, rfl⟩ | rfl) (by omega) (by omega) (by omega) | exact op_sliceArr _ _ rfl Tryz.underlying26 Tryz.sizeOf64 rfl GET (by first | exact ⟨_, rfl⟩ | rfl) (by first | exact ⟨_, rfl⟩ | rfl) (by omega) (by omega) (by omega))) ?_
     simp only [Int.toNat_natCast, mslice_lo']
     refine yE rfl rfl (op_appendArrT len_set 4 (sz := 9) (m := (m.drop j).length) (len := 1) (cs := (mcells (m.drop j)).flatten) rfl (.inr ⟨_, rfl⟩) Tryz.underlying26 Tryz.underlying26 Tryz.type64 rfl rfl rfl (by decide) rfl rfl rfl (by rw [← mcells_length (m.drop j)]; rfl) rfl (mones _) (by show (1 + (m.drop j).length) * 128 ≤ _; omega) (by omega) (mflat_len _)) (⟨.inl rfl, ⟨.inl rfl, trivial⟩⟩) (⟨rfl, trivial⟩) ?_
     refine zd1 ?_
     refine RP.nil rfl ?_
     refine zsr ?_
     refine zt rfl (op_buildSlice0 rfl Tryz.underlying26 Tryz.sizeOf64) ?_
     refine zg3 ?_
     refine zt rfl ((by first | exact op_sliceSl _ _ rfl Tryz.underlying26 Tryz.sizeOf64 rfl (by first | exact ⟨_, rfl⟩ | rfl) (by first | exact ⟨_, rfl⟩ | rfl) (by omega) (by omega) (by omega) | exact op_sliceArr _ _ rfl Tryz.underlying26 Tryz.sizeOf64 rfl GET (by first | exact ⟨_, rfl⟩ | rfl) (by first | exact ⟨_, rfl⟩ | rfl) (by omega) (by omega) (by omega))) ?_
     simp only [Int.toNat_natCast]
     rw [mslice_hi]
     refine zt rfl (op_appendNewT len_set (n := 5) rfl (sz := 9) (m := (m.take j).length) (cs := (mcells (m.take j)).flatten) rfl (.inr ⟨_, rfl⟩) Tryz.underlying26 Tryz.underlying26 Tryz.type64 rfl rfl rfl (by decide) (.inr rfl) (by rw [← mcells_length (m.take j)]; rfl) rfl (mones _) (by show (m.take j).length * 128 ≤ _; omega) (by omega) (mflat_len _)) ?_
     refine zg1 ?_
     refine zt rfl (op_appendArrT len_set 5 (sz := 9) (m := 1 + (m.drop j).length) (len := (m.take j).length) (cs := [.str (rtext s (rblank s t)).1, .int .i64 v.kind, .bool v.b, .bool v.n.neg, .str v.n.digits, .int .i64 v.n.exp, .str v.s, .sl false 8 (lcells v.l), .sl false 9 (mcells v.m)] ++ (mcells (m.drop j)).flatten) rfl (.inr ⟨_, rfl⟩) Tryz.underlying26 Tryz.underlying26 Tryz.type64 rfl rfl rfl (by decide) rfl rfl (mflat_len _).symm (srcv_arrT len_set 4 rfl (by rw [List.length_append, mflat_len]; simp only [List.length_cons, List.length_nil]; omega)) rfl (by rw [ones_append, mones]; rfl) (by show ((m.take j).length + (1 + (m.drop j).length)) * 128 ≤ _; omega) (by omega) (by rw [List.length_append, mflat_len]; simp only [List.length_cons, List.length_nil]; omega)) ?_
     refine zg1 ?_
     refine ztN rfl rfl (op_storeOS (r := [.int .i64 5, .bool false, .bool false, .str e0, .int .i64 0, .str e0, .sl false 8 (lcells []), .arr (σ.length + 5) 1 9 0 ((m.take j).length + (1 + (m.drop j).length))]) rfl Tryz.sizeOf26 rfl rfl rfl rfl rfl (by decide)) ?_
     refine zon ?_
     refine AWp_seq ?_
     refine AWp_seq ?_
     refine AWp_freezeInS 1 7 5 1 9 0 ((m.take j).length + (1 + (m.drop j).length)) rfl rfl rfl (mcells (rins m (rtext s (rblank s t)).1 v)) (by rw [Nat.zero_mul, List.drop_zero, List.take_of_length_le (by simp only [List.length_append, mflat_len, List.length_cons, List.length_nil]; omega), mflat_ins, hkk, hrow]) (mrows_len _) (by rw [mcells_length, rins_len]; omega) (by decide) (by simp only [List.length_append, mflat_len, List.length_cons, List.length_nil]; omega) ?_
     refine AWp_regL ?_
     refine zg1 ?_
     refine zt rfl (zc rfl (peek_r s u p _ (get_setA hp))) ?_
     refine zv1 ?_
     refine AWp_cond rfl (fun h7 => ?_) (fun h7 => ?_)
     ·(try rw [h7]); (try simp only [decide_eq_true_eq, decide_eq_false_iff_not, Bool.not_eq_true', Bool.not_eq_false', Int.not_lt, Int.not_le, Bool.not_true, Bool.not_false, Int.toNat_natCast, tn1, tn2, tnn, bne_iff_ne, beq_iff_eq, beq_eq_false_iff_ne, ne_eq, Decidable.not_not] at h7)
      refine AWp_exit ?_
      show ∃ z : List (ByteArray × JV) × RS × List AO, _ ∧ _ ∧ _
      exact ⟨(rins m (rtext s (rblank s t)).1 v, u, _), ⟨by rw [← hq1, robjF, if_pos ⟨htb, htp⟩, hx1, hx2, if_neg (by omega)]; rfl, hvk, by simp only; omega⟩, ⟨rfl, rfl, rfl, rfl, trivial⟩, rfl⟩
     ·(try rw [h7]); (try simp only [decide_eq_true_eq, decide_eq_false_iff_not, Bool.not_eq_true', Bool.not_eq_false', Int.not_lt, Int.not_le, Bool.not_true, Bool.not_false, Int.toNat_natCast, tn1, tn2, tnn, bne_iff_ne, beq_iff_eq, beq_eq_false_iff_ne, ne_eq, Decidable.not_not] at h7)
      refine AWp_skip ?_
      refine AWp_regL ?_
      refine zv8 ?_
      have hstep : robjF (rval n s) s (k + 1) m t = robjF (rval n s) s k (rins m (rtext s (rblank s t)).1 v) (rinc u) := by rw [robjF, if_pos ⟨htb, htp⟩, hx1, hx2, if_pos (by omega)]; rfl
      refine ⟨(k, rins m (rtext s (rblank s t)).1 v, rinc u), σ.length + 2, ⟨by rw [← hq1, hstep], (rinc_to hvk (by omega)).ok, ?_, by simp only [rinc]; omega, by simp only [rinc]; omega⟩, by simp only; omega, by simp, ⟨rfl, rfl, rfl, rfl, trivial⟩, closed_ownS (x := rbox s (rinc u)) 2 hcl (by simp [AO.cells, AV.ltL, AV.lt]) ?_, ?_, take_ownS 2⟩
      ·show msize (rins m (rkey s m t).1 v) ≤ _; rw [hl5]; simp only [rinc]; omega
      ·simp [ownLt, AO.cells, AV.ltL, AV.lt, ofConst1]
      ·simp [ltE, AV.lt]; omega
 ·skip
  obtain ⟨m, t, w⟩ := z
  obtain ⟨hz1, hz2, hz3⟩ := hz
  simp only at hz1 hz2 hz3 ⊢
  have hres : robj (rval n s) s r = (mkO m, rdec (rwant s rb2 t)) := by unfold robj; rw [hz1]
  refine zu1 ?_
  refine zt rfl (zc rfl (callSA hp (want_c rb2 s t p _ (get_setA hp) hs (by decide) hz2))) ?_
  refine zon ?_
  refine AWp_seq ?_
  have hw := rwant_to (s := s) (lit := rb2) hz2
  have hw1 := hw.1.ok.d0
  have hw2 := hw.1.ok.d1
  have hw3 := hw.1.ok.a
  refine AWp_regL ?_
  refine zv8 ?_
  refine zw2 ?_
  refine zrt ?_
  rw [hres, vcells_eq]
  exact RQ_retS (rkvs_cons (rkv_ckS rfl rfl rfl) rfl) (x := rbox s (rdec (rwant s rb2 t))) hcl (by simp [AO.cells, AV.ltL, AV.lt]) (by simp [rks, AV.lt, AV.ltL]) ⟨rfl, rfl⟩
end Lg
set_option maxRecDepth 20000
set_option maxHeartbeats 4000000
namespace Lg
open Go Go.Proofs Go.RowKit
variable [GLay] 
theorem rnum_c (s : ByteArray) (σ : List AO) (hs : s.size ≤ 1000000) : ACalls Tryz.prog 95 [.str s] σ (Ret (.tup [.agg (ncells (rNum s).1), .int .i64 (rNum s).2]) σ) := by
 refine ACalls_bodyC Tryz.func95 rfl Tryz.ntmps95 (by rw [Tryz.results95]; exact (.ck Tryz.isAgg24 Tryz.sizeOf24 (.t .nil))) (Nat.le_of_ble_eq_true rfl) (fun hcl hal => ?_)
 refine zw2 ?_
 refine zu1 ?_
 refine zt rfl (zc rfl (end_c s 0 _ hs (by omega))) ?_
 refine zv5 ?_
 refine AWp_seq ?_
 refine zu3 ?_
 refine zsp 25 rfl (fun h1 => ?_) fun h1 => ?_
 ·rw [h1]; (try simp only [decide_eq_true_eq, decide_eq_false_iff_not, Bool.not_eq_true', Bool.not_eq_false', Int.not_lt, Int.not_le, Bool.not_true, Bool.not_false, Int.toNat_natCast, tn1, tn2, tm1, tnn, bne_iff_ne, beq_iff_eq, beq_eq_false_iff_ne, ne_eq, Decidable.not_not] at h1)
  refine zv5 ?_
  refine AWp_condT rfl ?_
  refine zw3 ?_
  refine zrt ?_
  have hE : rNum s = ({}, 1) := by unfold rNum; rw [if_pos (.inl (by simpa using h1))]
  rw [hE]; exact RQ_ret (rkvs_cons (rkv_ck rfl rfl rfl) (rkvs_cons (rkv_t rfl) rfl)) hcl (by simp [rks, AV.lt, AV.ltL, ofConst1, ncells]) (Ret_of rfl)
 ·rw [h1]; (try simp only [decide_eq_true_eq, decide_eq_false_iff_not, Bool.not_eq_true', Bool.not_eq_false', Int.not_lt, Int.not_le, Bool.not_true, Bool.not_false, Int.toNat_natCast, tn1, tn2, tm1, tnn, bne_iff_ne, beq_iff_eq, beq_eq_false_iff_ne, ne_eq, Decidable.not_not] at h1)
  refine zv5 ?_
  refine AWp_cond rfl (fun h2 => ?_) (fun h2 => ?_)
  ·(try rw [h2]); (try simp only [decide_eq_true_eq, decide_eq_false_iff_not, Bool.not_eq_true', Bool.not_eq_false', Int.not_lt, Int.not_le, Bool.not_true, Bool.not_false, Int.toNat_natCast, tn1, tn2, tm1, tnn, bne_iff_ne, beq_iff_eq, beq_eq_false_iff_ne, ne_eq, Decidable.not_not] at h2)
   refine zw3 ?_
   refine zrt ?_
   have hE : rNum s = ({}, 1) := by unfold rNum; rw [if_pos (.inr (by omega))]
   rw [hE]; exact RQ_ret (rkvs_cons (rkv_ck rfl rfl rfl) (rkvs_cons (rkv_t rfl) rfl)) hcl (by simp [rks, AV.lt, AV.ltL, ofConst1, ncells]) (Ret_of rfl)
  ·(try rw [h2]); (try simp only [decide_eq_true_eq, decide_eq_false_iff_not, Bool.not_eq_true', Bool.not_eq_false', Int.not_lt, Int.not_le, Bool.not_true, Bool.not_false, Int.toNat_natCast, tn1, tn2, tm1, tnn, bne_iff_ne, beq_iff_eq, beq_eq_false_iff_ne, ne_eq, Decidable.not_not] at h2)
   refine AWp_skip ?_
   refine zw1 ?_
   refine zw1 ?_
   refine zw1 ?_
   refine zw1 ?_
   refine zw1 ?_
   refine zw1 ?_
   refine zw1 ?_
   refine AWp_seq ?_
   refine zw1 ?_
   refine AWp_block ?_
   -- loop 0 LIVE 0:param 2:alloc 3:assign 6:alloc 7:assign 8:assign 9:assign 10:assign 11:assign 12:assign 13:assign
   refine AWp_loop (ι := Nat × NSt) (fun q => nloop s q.1 q.2 = nloop s 0 nst0 ∧ q.1 ≤ s.size ∧ (0 ≤ q.2.behind ∧ q.2.behind ≤ q.1) ∧ q.2.digits.size ≤ q.1 ∧ 0 ≤ q.2.exp ∧ q.2.exp ≤ 1000000) (fun q => ⟨[], [(0, .str s), (2, .ptr (σ.length + 0) 0), (6, .ptr (σ.length + 1) 0), (7, .str q.2.digits), (8, .int .i64 q.2.behind), (9, .bool q.2.point), (10, .int .i64 q.2.exp), (11, .bool q.2.down), (12, .bool q.2.power), (13, .int .i64 (q.1 : Int))]⟩) (fun q => σ ++ [.box [.bool false, .str e0, .int .i64 0], .box [.bool q.2.neg, .str e0, .int .i64 0]]) (fun q => s.size - q.1) ((0, nst0)) (⟨rfl, Nat.zero_le _, ⟨Int.le_refl _, Int.le_refl _⟩, Nat.le_refl _, Int.le_refl _, by decide⟩) ?_ rfl (fun q hq => ?_)
   ·exact ⟨rfl, rfl, rfl, rfl, rfl, rfl, rfl, rfl, rfl, rfl, rfl, trivial⟩
   obtain ⟨i, ng, dn, pt, pw, d, b, x⟩ := q
   obtain ⟨hq1, hq2, hq3, hq4, hq5, hq6⟩ := hq
   simp only at hq1 hq2 hq3 hq4 hq5 hq6 ⊢
   have hbl := bat_lt s i
   have h1s : (ByteArray.mk #[u8b ((bat s i).toNat : Int)]).size = 1 := rfl
   refine AWp_seq ?_
   refine zw4 ?_
   refine AWp_cond rfl (fun h3 => ?_) (fun h3 => ?_)
   ·(try rw [h3]); (try simp only [decide_eq_true_eq, decide_eq_false_iff_not, Bool.not_eq_true', Bool.not_eq_false', Int.not_lt, Int.not_le, Bool.not_true, Bool.not_false, Int.toNat_natCast, tn1, tn2, tm1, tnn, bne_iff_ne, beq_iff_eq, beq_eq_false_iff_ne, ne_eq, Decidable.not_not] at h3)
    refine AWp_skip ?_
    refine AWp_seq ?_
    refine AWp_block ?_
    refine zu3 ?_
    simp only [Int.toNat_natCast]
    refine zv1 ?_
    refine zw1 ?_
    refine AWp_cond rfl (fun h4 => ?_) (fun h4 => ?_)
    ·(try rw [h4]); (try simp only [decide_eq_true_eq, decide_eq_false_iff_not, Bool.not_eq_true', Bool.not_eq_false', Int.not_lt, Int.not_le, Bool.not_true, Bool.not_false, Int.toNat_natCast, tn1, tn2, tm1, tnn, bne_iff_ne, beq_iff_eq, beq_eq_false_iff_ne, ne_eq, Decidable.not_not] at h4)
     subst h4
     refine AWp_seq ?_
     refine zw2 ?_
     refine AWp_cond rfl (fun h5 => ?_) (fun h5 => ?_)
     ·(try rw [h5]); (try simp only [decide_eq_true_eq, decide_eq_false_iff_not, Bool.not_eq_true', Bool.not_eq_false', Int.not_lt, Int.not_le, Bool.not_true, Bool.not_false, Int.toNat_natCast, tn1, tn2, tm1, tnn, bne_iff_ne, beq_iff_eq, beq_eq_false_iff_ne, ne_eq, Decidable.not_not] at h5)
      refine AWp_regL ?_
      refine zv1 ?_
      refine zu3 ?_
      refine zsp 46 rfl (fun h6 => ?_) fun h6 => ?_
      ·rw [h6]; (try simp only [decide_eq_true_eq, decide_eq_false_iff_not, Bool.not_eq_true', Bool.not_eq_false', Int.not_lt, Int.not_le, Bool.not_true, Bool.not_false, Int.toNat_natCast, tn1, tn2, tm1, tnn, bne_iff_ne, beq_iff_eq, beq_eq_false_iff_ne, ne_eq, Decidable.not_not] at h6)
       refine zv3 ?_
       refine AWp_cond rfl (fun h7 => ?_) (fun h7 => ?_)
       ·(try rw [h7]); (try simp only [decide_eq_true_eq, decide_eq_false_iff_not, Bool.not_eq_true', Bool.not_eq_false', Int.not_lt, Int.not_le, Bool.not_true, Bool.not_false, Int.toNat_natCast, tn1, tn2, tm1, tnn, bne_iff_ne, beq_iff_eq, beq_eq_false_iff_ne, ne_eq, Decidable.not_not] at h7)
        refine AWp_regL ?_
        refine zv8 ?_
        refine AWp_regL ?_
        refine zv3 ?_
        (exfalso; omega; done)
       ·(try rw [h7]); (try simp only [decide_eq_true_eq, decide_eq_false_iff_not, Bool.not_eq_true', Bool.not_eq_false', Int.not_lt, Int.not_le, Bool.not_true, Bool.not_false, Int.toNat_natCast, tn1, tn2, tm1, tnn, bne_iff_ne, beq_iff_eq, beq_eq_false_iff_ne, ne_eq, Decidable.not_not] at h7)
        refine AWp_skip ?_
        refine AWp_regL ?_
        refine zv3 ?_
        (exfalso; omega; done)
      ·rw [h6]; (try simp only [decide_eq_true_eq, decide_eq_false_iff_not, Bool.not_eq_true', Bool.not_eq_false', Int.not_lt, Int.not_le, Bool.not_true, Bool.not_false, Int.toNat_natCast, tn1, tn2, tm1, tnn, bne_iff_ne, beq_iff_eq, beq_eq_false_iff_ne, ne_eq, Decidable.not_not] at h6)
       refine zv3 ?_
       refine AWp_condF rfl ?_
       refine AWp_skip ?_
       refine AWp_regL ?_
       refine zv3 ?_
       exact ⟨(i + 1, ⟨ng, true, pt, true, d, b, x⟩), σ.length + 2, ⟨by rw [← hq1]; exact (nl1 (by omega) (by omega)).symm, by simp only; omega, by simp only; omega, by simp only [ByteArray.size_append]; omega, by simp only; omega, by simp only; omega⟩, by simp only; omega, by simp, ⟨rfl, rfl, rfl, rfl, rfl, rfl, rfl, rfl, rfl, rfl, rfl, trivial⟩, closed_own 2 hcl (by simp [ownLt, AO.cells, AV.ltL, AV.lt]), by simp [ltE, AV.lt], take_own 2⟩
     ·(try rw [h5]); (try simp only [decide_eq_true_eq, decide_eq_false_iff_not, Bool.not_eq_true', Bool.not_eq_false', Int.not_lt, Int.not_le, Bool.not_true, Bool.not_false, Int.toNat_natCast, tn1, tn2, tm1, tnn, bne_iff_ne, beq_iff_eq, beq_eq_false_iff_ne, ne_eq, Decidable.not_not] at h5)
      refine AWp_skip ?_
      refine zu3 ?_
      refine zsp 46 rfl (fun h8 => ?_) fun h8 => ?_
      ·rw [h8]; (try simp only [decide_eq_true_eq, decide_eq_false_iff_not, Bool.not_eq_true', Bool.not_eq_false', Int.not_lt, Int.not_le, Bool.not_true, Bool.not_false, Int.toNat_natCast, tn1, tn2, tm1, tnn, bne_iff_ne, beq_iff_eq, beq_eq_false_iff_ne, ne_eq, Decidable.not_not] at h8)
       refine zv3 ?_
       refine AWp_cond rfl (fun h9 => ?_) (fun h9 => ?_)
       ·(try rw [h9]); (try simp only [decide_eq_true_eq, decide_eq_false_iff_not, Bool.not_eq_true', Bool.not_eq_false', Int.not_lt, Int.not_le, Bool.not_true, Bool.not_false, Int.toNat_natCast, tn1, tn2, tm1, tnn, bne_iff_ne, beq_iff_eq, beq_eq_false_iff_ne, ne_eq, Decidable.not_not] at h9)
        refine AWp_regL ?_
        refine zv8 ?_
        refine AWp_regL ?_
        refine zv3 ?_
        exact ⟨(i + 1, ⟨ng, dn, pt, true, d, b, min (10 * x + (bat s i).toNat - 48) 1000000⟩), σ.length + 2, ⟨by rw [← hq1]; exact (nl2 (by omega) (by omega)).symm, by simp only; omega, by simp only; omega, by simp only [ByteArray.size_append]; omega, by simp only; omega, by simp only; omega⟩, by simp only; omega, by simp, ⟨rfl, rfl, rfl, rfl, rfl, rfl, rfl, rfl, rfl, rfl, rfl, trivial⟩, closed_own 2 hcl (by simp [ownLt, AO.cells, AV.ltL, AV.lt]), by simp [ltE, AV.lt], take_own 2⟩
       ·(try rw [h9]); (try simp only [decide_eq_true_eq, decide_eq_false_iff_not, Bool.not_eq_true', Bool.not_eq_false', Int.not_lt, Int.not_le, Bool.not_true, Bool.not_false, Int.toNat_natCast, tn1, tn2, tm1, tnn, bne_iff_ne, beq_iff_eq, beq_eq_false_iff_ne, ne_eq, Decidable.not_not] at h9)
        refine AWp_skip ?_
        refine AWp_regL ?_
        refine zv3 ?_
        exact ⟨(i + 1, ⟨ng, dn, pt, true, d, b, x⟩), σ.length + 2, ⟨by rw [← hq1]; exact (nl3 (by omega) (by omega) (by omega)).symm, by simp only; omega, by simp only; omega, by simp only [ByteArray.size_append]; omega, by simp only; omega, by simp only; omega⟩, by simp only; omega, by simp, ⟨rfl, rfl, rfl, rfl, rfl, rfl, rfl, rfl, rfl, rfl, rfl, trivial⟩, closed_own 2 hcl (by simp [ownLt, AO.cells, AV.ltL, AV.lt]), by simp [ltE, AV.lt], take_own 2⟩
      ·rw [h8]; (try simp only [decide_eq_true_eq, decide_eq_false_iff_not, Bool.not_eq_true', Bool.not_eq_false', Int.not_lt, Int.not_le, Bool.not_true, Bool.not_false, Int.toNat_natCast, tn1, tn2, tm1, tnn, bne_iff_ne, beq_iff_eq, beq_eq_false_iff_ne, ne_eq, Decidable.not_not] at h8)
       refine zv3 ?_
       refine AWp_condF rfl ?_
       refine AWp_skip ?_
       refine AWp_regL ?_
       refine zv3 ?_
       exact ⟨(i + 1, ⟨ng, dn, pt, true, d, b, x⟩), σ.length + 2, ⟨by rw [← hq1]; exact (nl3 (by omega) (by omega) (by omega)).symm, by simp only; omega, by simp only; omega, by simp only [ByteArray.size_append]; omega, by simp only; omega, by simp only; omega⟩, by simp only; omega, by simp, ⟨rfl, rfl, rfl, rfl, rfl, rfl, rfl, rfl, rfl, rfl, rfl, trivial⟩, closed_own 2 hcl (by simp [ownLt, AO.cells, AV.ltL, AV.lt]), by simp [ltE, AV.lt], take_own 2⟩
    ·(try rw [h4]); (try simp only [decide_eq_true_eq, decide_eq_false_iff_not, Bool.not_eq_true', Bool.not_eq_false', Int.not_lt, Int.not_le, Bool.not_true, Bool.not_false, Int.toNat_natCast, tn1, tn2, tm1, tnn, bne_iff_ne, beq_iff_eq, beq_eq_false_iff_ne, ne_eq, Decidable.not_not] at h4)
     subst h4
     refine zw2 ?_
     refine AWp_cond rfl (fun h10 => ?_) (fun h10 => ?_)
     ·(try rw [h10]); (try simp only [decide_eq_true_eq, decide_eq_false_iff_not, Bool.not_eq_true', Bool.not_eq_false', Int.not_lt, Int.not_le, Bool.not_true, Bool.not_false, Int.toNat_natCast, tn1, tn2, tm1, tnn, bne_iff_ne, beq_iff_eq, beq_eq_false_iff_ne, ne_eq, Decidable.not_not] at h10)
      refine AWp_regL ?_
      refine zg1 ?_
      refine ztN rfl rfl (op_storeO (r := [.bool true, .str e0, .int .i64 0]) rfl Tryz.sizeOf4 rfl rfl rfl rfl rfl (by decide)) ?_
      refine zon ?_
      refine AWp_regL ?_
      refine zv3 ?_
      exact ⟨(i + 1, ⟨true, dn, pt, false, d, b, x⟩), σ.length + 2, ⟨by rw [← hq1]; exact (nl4 (by omega) (by omega)).symm, by simp only; omega, by simp only; omega, by simp only [ByteArray.size_append]; omega, by simp only; omega, by simp only; omega⟩, by simp only; omega, by simp, ⟨rfl, rfl, rfl, rfl, rfl, rfl, rfl, rfl, rfl, rfl, rfl, trivial⟩, closed_own 2 hcl (by simp [ownLt, AO.cells, AV.ltL, AV.lt]), by simp [ltE, AV.lt], take_own 2⟩
     ·(try rw [h10]); (try simp only [decide_eq_true_eq, decide_eq_false_iff_not, Bool.not_eq_true', Bool.not_eq_false', Int.not_lt, Int.not_le, Bool.not_true, Bool.not_false, Int.toNat_natCast, tn1, tn2, tm1, tnn, bne_iff_ne, beq_iff_eq, beq_eq_false_iff_ne, ne_eq, Decidable.not_not] at h10)
      refine zw2 ?_
      refine AWp_cond rfl (fun h11 => ?_) (fun h11 => ?_)
      ·(try rw [h11]); (try simp only [decide_eq_true_eq, decide_eq_false_iff_not, Bool.not_eq_true', Bool.not_eq_false', Int.not_lt, Int.not_le, Bool.not_true, Bool.not_false, Int.toNat_natCast, tn1, tn2, tm1, tnn, bne_iff_ne, beq_iff_eq, beq_eq_false_iff_ne, ne_eq, Decidable.not_not] at h11)
       refine AWp_regL ?_
       refine zv1 ?_
       refine AWp_regL ?_
       refine zv3 ?_
       exact ⟨(i + 1, ⟨ng, dn, true, false, d, b, x⟩), σ.length + 2, ⟨by rw [← hq1]; exact (nl5 (by omega) (by omega)).symm, by simp only; omega, by simp only; omega, by simp only [ByteArray.size_append]; omega, by simp only; omega, by simp only; omega⟩, by simp only; omega, by simp, ⟨rfl, rfl, rfl, rfl, rfl, rfl, rfl, rfl, rfl, rfl, rfl, trivial⟩, closed_own 2 hcl (by simp [ownLt, AO.cells, AV.ltL, AV.lt]), by simp [ltE, AV.lt], take_own 2⟩
      ·(try rw [h11]); (try simp only [decide_eq_true_eq, decide_eq_false_iff_not, Bool.not_eq_true', Bool.not_eq_false', Int.not_lt, Int.not_le, Bool.not_true, Bool.not_false, Int.toNat_natCast, tn1, tn2, tm1, tnn, bne_iff_ne, beq_iff_eq, beq_eq_false_iff_ne, ne_eq, Decidable.not_not] at h11)
       refine zu3 ?_
       refine zsp 64 rfl (fun h12 => ?_) fun h12 => ?_
       ·rw [h12]; (try simp only [decide_eq_true_eq, decide_eq_false_iff_not, Bool.not_eq_true', Bool.not_eq_false', Int.not_lt, Int.not_le, Bool.not_true, Bool.not_false, Int.toNat_natCast, tn1, tn2, tm1, tnn, bne_iff_ne, beq_iff_eq, beq_eq_false_iff_ne, ne_eq, Decidable.not_not] at h12)
        refine zv3 ?_
        refine AWp_condT rfl ?_
        refine AWp_regL ?_
        refine zv1 ?_
        refine AWp_regL ?_
        refine zv3 ?_
        exact ⟨(i + 1, ⟨ng, dn, pt, true, d, b, x⟩), σ.length + 2, ⟨by rw [← hq1]; exact (nl6 (by omega) (by omega)).symm, by simp only; omega, by simp only; omega, by simp only [ByteArray.size_append]; omega, by simp only; omega, by simp only; omega⟩, by simp only; omega, by simp, ⟨rfl, rfl, rfl, rfl, rfl, rfl, rfl, rfl, rfl, rfl, rfl, trivial⟩, closed_own 2 hcl (by simp [ownLt, AO.cells, AV.ltL, AV.lt]), by simp [ltE, AV.lt], take_own 2⟩
       ·rw [h12]; (try simp only [decide_eq_true_eq, decide_eq_false_iff_not, Bool.not_eq_true', Bool.not_eq_false', Int.not_lt, Int.not_le, Bool.not_true, Bool.not_false, Int.toNat_natCast, tn1, tn2, tm1, tnn, bne_iff_ne, beq_iff_eq, beq_eq_false_iff_ne, ne_eq, Decidable.not_not] at h12)
        refine zv3 ?_
        refine AWp_cond rfl (fun h13 => ?_) (fun h13 => ?_)
        ·(try rw [h13]); (try simp only [decide_eq_true_eq, decide_eq_false_iff_not, Bool.not_eq_true', Bool.not_eq_false', Int.not_lt, Int.not_le, Bool.not_true, Bool.not_false, Int.toNat_natCast, tn1, tn2, tm1, tnn, bne_iff_ne, beq_iff_eq, beq_eq_false_iff_ne, ne_eq, Decidable.not_not] at h13)
         refine AWp_regL ?_
         refine zv1 ?_
         refine AWp_regL ?_
         refine zv3 ?_
         exact ⟨(i + 1, ⟨ng, dn, pt, true, d, b, x⟩), σ.length + 2, ⟨by rw [← hq1]; exact (nl6 (by omega) (by omega)).symm, by simp only; omega, by simp only; omega, by simp only [ByteArray.size_append]; omega, by simp only; omega, by simp only; omega⟩, by simp only; omega, by simp, ⟨rfl, rfl, rfl, rfl, rfl, rfl, rfl, rfl, rfl, rfl, rfl, trivial⟩, closed_own 2 hcl (by simp [ownLt, AO.cells, AV.ltL, AV.lt]), by simp [ltE, AV.lt], take_own 2⟩
        ·(try rw [h13]); (try simp only [decide_eq_true_eq, decide_eq_false_iff_not, Bool.not_eq_true', Bool.not_eq_false', Int.not_lt, Int.not_le, Bool.not_true, Bool.not_false, Int.toNat_natCast, tn1, tn2, tm1, tnn, bne_iff_ne, beq_iff_eq, beq_eq_false_iff_ne, ne_eq, Decidable.not_not] at h13)
         refine zu2 ?_
         refine zt rfl (op_buildSlice [[_]] rfl Tryz.underlying102 Tryz.sizeOf5 Tryz.zeroValue5 rfl (by decide) (by decide) rfl rfl rfl rfl rfl) ?_
         refine zt rfl (op_bytesStr (b := _) (m := 1) rfl Tryz.underlying102 Tryz.underlying5 Tryz.underlying9 (bs1 ⟨by omega, by omega⟩) rfl rfl) ?_
         refine zv2 ?_
         refine zw1 ?_
         refine AWp_cond rfl (fun h14 => ?_) (fun h14 => ?_)
         ·(try rw [h14]); (try simp only [decide_eq_true_eq, decide_eq_false_iff_not, Bool.not_eq_true', Bool.not_eq_false', Int.not_lt, Int.not_le, Bool.not_true, Bool.not_false, Int.toNat_natCast, tn1, tn2, tm1, tnn, bne_iff_ne, beq_iff_eq, beq_eq_false_iff_ne, ne_eq, Decidable.not_not] at h14)
          subst h14
          refine AWp_regL ?_
          refine zv3 ?_
          refine AWp_regL ?_
          refine zv3 ?_
          exact ⟨(i + 1, ⟨ng, dn, true, false, d ++ ⟨#[u8b ((bat s i).toNat : Int)]⟩, b + 1, x⟩), σ.length + 2, ⟨by rw [← hq1]; exact (nl7 (by omega) (by omega) (by omega) (by omega)).symm, by simp only; omega, by simp only; omega, by simp only [ByteArray.size_append]; omega, by simp only; omega, by simp only; omega⟩, by simp only; omega, by simp, ⟨rfl, rfl, rfl, rfl, rfl, rfl, rfl, rfl, rfl, rfl, rfl, trivial⟩, closed_own 2 hcl (by simp [ownLt, AO.cells, AV.ltL, AV.lt]), by simp [ltE, AV.lt], take_own 2⟩
         ·(try rw [h14]); (try simp only [decide_eq_true_eq, decide_eq_false_iff_not, Bool.not_eq_true', Bool.not_eq_false', Int.not_lt, Int.not_le, Bool.not_true, Bool.not_false, Int.toNat_natCast, tn1, tn2, tm1, tnn, bne_iff_ne, beq_iff_eq, beq_eq_false_iff_ne, ne_eq, Decidable.not_not] at h14)
          subst h14
          refine AWp_skip ?_
          refine AWp_regL ?_
          refine zv3 ?_
          exact ⟨(i + 1, ⟨ng, dn, false, false, d ++ ⟨#[u8b ((bat s i).toNat : Int)]⟩, b, x⟩), σ.length + 2, ⟨by rw [← hq1]; exact (nl8 (by omega) (by omega) (by omega) (by omega)).symm, by simp only; omega, by simp only; omega, by simp only [ByteArray.size_append]; omega, by simp only; omega, by simp only; omega⟩, by simp only; omega, by simp, ⟨rfl, rfl, rfl, rfl, rfl, rfl, rfl, rfl, rfl, rfl, rfl, trivial⟩, closed_own 2 hcl (by simp [ownLt, AO.cells, AV.ltL, AV.lt]), by simp [ltE, AV.lt], take_own 2⟩
   ·(try rw [h3]); (try simp only [decide_eq_true_eq, decide_eq_false_iff_not, Bool.not_eq_true', Bool.not_eq_false', Int.not_lt, Int.not_le, Bool.not_true, Bool.not_false, Int.toNat_natCast, tn1, tn2, tm1, tnn, bne_iff_ne, beq_iff_eq, beq_eq_false_iff_ne, ne_eq, Decidable.not_not] at h3)
    have ht : nloop s 0 nst0 = ⟨ng, dn, pt, pw, d, b, x⟩ := by rw [← hq1]; exact nl0 (by omega)
    refine AWp_exit ?_
    refine AWp_join (ι := Int) (fun xx => xx = nsgn ⟨ng, dn, pt, pw, d, b, x⟩ ∧ -1000000 ≤ xx ∧ xx ≤ 1000000) (fun xx => ⟨[], [(2, .ptr (σ.length + 0) 0), (6, .ptr (σ.length + 1) 0), (7, .str d), (8, .int .i64 b), (10, .int .i64 xx)]⟩) (fun xx => σ ++ [.box [.bool false, .str e0, .int .i64 0], .box [.bool ng, .str e0, .int .i64 0]]) ?_ (fun xx hj => ?_)
    ·skip
     refine zw1 ?_
     refine AWp_cond rfl (fun h15 => ?_) (fun h15 => ?_)
     ·(try rw [h15]); (try simp only [decide_eq_true_eq, decide_eq_false_iff_not, Bool.not_eq_true', Bool.not_eq_false', Int.not_lt, Int.not_le, Bool.not_true, Bool.not_false, Int.toNat_natCast, tn1, tn2, tm1, tnn, bne_iff_ne, beq_iff_eq, beq_eq_false_iff_ne, ne_eq, Decidable.not_not] at h15)
      subst h15
      refine AWp_regL ?_
      refine zg1 ?_
      refine zt rfl (op_neg64 rfl rfl (by omega) (by omega)) ?_
      refine zv1 ?_
      exact ⟨-x, ⟨by simp [nsgn], by omega, by omega⟩, ⟨rfl, rfl, rfl, rfl, rfl, rfl, trivial⟩, rfl⟩
     ·(try rw [h15]); (try simp only [decide_eq_true_eq, decide_eq_false_iff_not, Bool.not_eq_true', Bool.not_eq_false', Int.not_lt, Int.not_le, Bool.not_true, Bool.not_false, Int.toNat_natCast, tn1, tn2, tm1, tnn, bne_iff_ne, beq_iff_eq, beq_eq_false_iff_ne, ne_eq, Decidable.not_not] at h15)
      subst h15
      refine AWp_skip ?_
      exact ⟨x, ⟨by simp [nsgn], by omega, by omega⟩, ⟨rfl, rfl, rfl, rfl, rfl, rfl, trivial⟩, rfl⟩
    ·skip
     obtain ⟨hx1, hx2, hx3⟩ := hj
     refine zw4 ?_
     refine zw1 ?_
     refine AWp_seq ?_
     refine AWp_block ?_
     -- loop 1 LIVE 2:alloc 3:assign 6:alloc 7:assign 10:assign 15:assign
     refine AWp_loop (ι := Nat) (fun f => fz d f = fz d 0 ∧ f ≤ d.size) (fun f => ⟨[], [(2, .ptr (σ.length + 0) 0), (6, .ptr (σ.length + 1) 0), (7, .str d), (10, .int .i64 (xx - b)), (15, .int .i64 (f : Int))]⟩) (fun f => σ ++ [_, _]) (fun f => d.size - f) (0) (⟨rfl, Nat.zero_le _⟩) ?_ rfl (fun f hf => ?_)
     ·exact ⟨rfl, rfl, rfl, rfl, rfl, rfl, trivial⟩
     obtain ⟨hf1, hf2⟩ := hf
     refine AWp_seq ?_
     refine zu5 ?_
     refine zsp 86 rfl (fun h16 => ?_) fun h16 => ?_
     ·rw [h16]; (try simp only [decide_eq_true_eq, decide_eq_false_iff_not, Bool.not_eq_true', Bool.not_eq_false', Int.not_lt, Int.not_le, Bool.not_true, Bool.not_false, Int.toNat_natCast, tn1, tn2, tm1, tnn, bne_iff_ne, beq_iff_eq, beq_eq_false_iff_ne, ne_eq, Decidable.not_not] at h16)
      refine zv5 ?_
      refine AWp_cond rfl (fun h17 => ?_) (fun h17 => ?_)
      ·(try rw [h17]); (try simp only [decide_eq_true_eq, decide_eq_false_iff_not, Bool.not_eq_true', Bool.not_eq_false', Int.not_lt, Int.not_le, Bool.not_true, Bool.not_false, Int.toNat_natCast, tn1, tn2, tm1, tnn, bne_iff_ne, beq_iff_eq, beq_eq_false_iff_ne, ne_eq, Decidable.not_not] at h17)
       refine AWp_skip ?_
       refine AWp_block ?_
       refine AWp_regL ?_
       refine zv3 ?_
       exact ⟨f + 1, σ.length + 2, ⟨by rw [← hf1]; exact (fz_yes (by omega) (by omega)).symm, by omega⟩, by omega, by simp, ⟨rfl, rfl, rfl, rfl, rfl, rfl, trivial⟩, closed_own 2 hcl (by simp [ownLt, AO.cells, AV.ltL, AV.lt]), by simp [ltE, AV.lt], take_own 2⟩
      ·(try rw [h17]); (try simp only [decide_eq_true_eq, decide_eq_false_iff_not, Bool.not_eq_true', Bool.not_eq_false', Int.not_lt, Int.not_le, Bool.not_true, Bool.not_false, Int.toNat_natCast, tn1, tn2, tm1, tnn, bne_iff_ne, beq_iff_eq, beq_eq_false_iff_ne, ne_eq, Decidable.not_not] at h17)
       refine AWp_exit ?_
       refine zw3 ?_
       refine AWp_seq ?_
       refine AWp_block ?_
       -- loop 2 LIVE 2:alloc 3:assign 6:alloc 7:assign 10:assign 15:assign 16:assign
       have hff : fz d 0 = f := by rw [← hf1]; exact fz_no (by omega)
       refine AWp_loop (ι := Nat) (fun l => lz d f l = lz d f d.size ∧ f ≤ l ∧ l ≤ d.size) (fun l => ⟨[], [(2, .ptr (σ.length + 0) 0), (6, .ptr (σ.length + 1) 0), (7, .str d), (10, .int .i64 (xx - b + ((d.size : Int) - l))), (15, .int .i64 (f : Int)), (16, .int .i64 (l : Int))]⟩) (fun l => σ ++ [_, _]) (fun l => l) (d.size) (⟨rfl, hf2, Nat.le_refl _⟩) ?_ rfl (fun l hl => ?_)
       ·refine ⟨rfl, rfl, rfl, rfl, ?_, rfl, rfl, trivial⟩
        rw [Int.sub_self, Int.add_zero]; rfl
       obtain ⟨hl1, hl2, hl3⟩ := hl
       refine AWp_seq ?_
       refine zu4 ?_
       refine zsp 99 rfl (fun h18 => ?_) fun h18 => ?_
       ·rw [h18]; (try simp only [decide_eq_true_eq, decide_eq_false_iff_not, Bool.not_eq_true', Bool.not_eq_false', Int.not_lt, Int.not_le, Bool.not_true, Bool.not_false, Int.toNat_natCast, tn1, tn2, tm1, tnn, bne_iff_ne, beq_iff_eq, beq_eq_false_iff_ne, ne_eq, Decidable.not_not] at h18)
        refine zv6 ?_
        refine AWp_cond rfl (fun h19 => ?_) (fun h19 => ?_)
        ·(try rw [h19]); (try simp only [decide_eq_true_eq, decide_eq_false_iff_not, Bool.not_eq_true', Bool.not_eq_false', Int.not_lt, Int.not_le, Bool.not_true, Bool.not_false, Int.toNat_natCast, tn1, tn2, tm1, tnn, bne_iff_ne, beq_iff_eq, beq_eq_false_iff_ne, ne_eq, Decidable.not_not] at h19)
         refine AWp_skip ?_
         refine AWp_block ?_
         refine zw3 ?_
         refine AWp_regL ?_
         refine zv3 ?_
         refine ⟨l - 1, σ.length + 2, ⟨by rw [← hl1]; exact (lz_yes (by omega) (by omega)).symm, by omega⟩, by omega, by simp, ⟨rfl, rfl, rfl, rfl, ?_, rfl, ?_, trivial⟩, closed_own 2 hcl (by simp [ownLt, AO.cells, AV.ltL, AV.lt]), by simp [ltE, AV.lt], take_own 2⟩
         ·rw [show xx - b + ((d.size : Int) - ((l - 1 : Nat) : Int)) = xx - b + ((d.size : Int) - (l : Int)) + 1 by omega]; rfl
         ·rw [show ((l - 1 : Nat) : Int) = (l : Int) - 1 by omega]; rfl
        ·(try rw [h19]); (try simp only [decide_eq_true_eq, decide_eq_false_iff_not, Bool.not_eq_true', Bool.not_eq_false', Int.not_lt, Int.not_le, Bool.not_true, Bool.not_false, Int.toNat_natCast, tn1, tn2, tm1, tnn, bne_iff_ne, beq_iff_eq, beq_eq_false_iff_ne, ne_eq, Decidable.not_not] at h19)
         refine AWp_exit ?_
         refine AWp_seq ?_
         refine zsr ?_
         have hll : lz d f d.size = l := by rw [← hl1]; exact lz_no (by omega) hl2
         have hxs : (d.extract f l).size ≤ d.size := by rw [ByteArray.size_extract]; omega
         have hnf : nF ⟨ng, dn, pt, pw, d, b, x⟩ = f := hff
         have hnl : nL ⟨ng, dn, pt, pw, d, b, x⟩ = l := by unfold nL; rw [hnf]; exact hll
         have hof : nOf ⟨ng, dn, pt, pw, d, b, x⟩ = ⟨ng, d.extract f l, xx - b + ((d.size : Int) - l)⟩ := by unfold nOf; rw [hnf, hnl, ← hx1]
         refine zv3 ?_
         refine AWp_cond rfl (fun h20 => ?_) (fun h20 => ?_)
         ·(try rw [h20]); (try simp only [decide_eq_true_eq, decide_eq_false_iff_not, Bool.not_eq_true', Bool.not_eq_false', Int.not_lt, Int.not_le, Bool.not_true, Bool.not_false, Int.toNat_natCast, tn1, tn2, tm1, tnn, bne_iff_ne, beq_iff_eq, beq_eq_false_iff_ne, ne_eq, Decidable.not_not] at h20)
          refine zw3 ?_
          refine zrt ?_
          (exfalso; omega; done)
         ·(try rw [h20]); (try simp only [decide_eq_true_eq, decide_eq_false_iff_not, Bool.not_eq_true', Bool.not_eq_false', Int.not_lt, Int.not_le, Bool.not_true, Bool.not_false, Int.toNat_natCast, tn1, tn2, tm1, tnn, bne_iff_ne, beq_iff_eq, beq_eq_false_iff_ne, ne_eq, Decidable.not_not] at h20)
          refine AWp_skip ?_
          refine zu4 ?_
          simp only [Int.toNat_natCast]
          refine zg1 ?_
          refine ztN rfl rfl (op_storeO (r := [.bool ng, .str (d.extract f l), .int .i64 0]) rfl Tryz.sizeOf9 rfl rfl rfl rfl rfl (by decide)) ?_
          refine zon ?_
          refine zu2 ?_
          refine ztN rfl rfl (op_storeO (r := [.bool ng, .str (d.extract f l), .int .i64 (xx - b + ((d.size : Int) - l))]) rfl Tryz.sizeOf3 rfl rfl rfl rfl rfl (by decide)) ?_
          refine zon ?_
          refine zu1 ?_
          refine zt rfl (zc rfl (mayNum_c ⟨ng, d.extract f l, xx - b + ((d.size : Int) - l)⟩ _ (by simp only; omega))) ?_
          refine zv1 ?_
          refine AWp_seq ?_
          refine zw2 ?_
          refine AWp_cond rfl (fun h21 => ?_) (fun h21 => ?_)
          ·(try rw [h21]); (try simp only [decide_eq_true_eq, decide_eq_false_iff_not, Bool.not_eq_true', Bool.not_eq_false', Int.not_lt, Int.not_le, Bool.not_true, Bool.not_false, Int.toNat_natCast, tn1, tn2, tm1, tnn, bne_iff_ne, beq_iff_eq, beq_eq_false_iff_ne, ne_eq, Decidable.not_not] at h21)
           refine zw3 ?_
           refine zrt ?_
           (have hE : rNum s = ({}, 5) := by unfold rNum; rw [if_neg (by simp [h1]; omega), ht, if_neg (by rw [hnf, hnl]; omega), if_neg (by rw [hof]; exact (pb_niff _).1 (by assumption))]); rw [hE]; exact RQ_ret (rkvs_cons (rkv_ck rfl rfl rfl) (rkvs_cons (rkv_t rfl) rfl)) hcl (by simp [rks, AV.lt, AV.ltL, ofConst1, ncells]) (Ret_of rfl)
          ·(try rw [h21]); (try simp only [decide_eq_true_eq, decide_eq_false_iff_not, Bool.not_eq_true', Bool.not_eq_false', Int.not_lt, Int.not_le, Bool.not_true, Bool.not_false, Int.toNat_natCast, tn1, tn2, tm1, tnn, bne_iff_ne, beq_iff_eq, beq_eq_false_iff_ne, ne_eq, Decidable.not_not] at h21)
           refine AWp_skip ?_
           refine zw3 ?_
           refine zrt ?_
           (have hE : rNum s = (⟨ng, d.extract f l, xx - b + ((d.size : Int) - l)⟩, 0) := by unfold rNum; rw [if_neg (by simp [h1]; omega), ht, if_neg (by rw [hnf, hnl]; omega), if_pos (by rw [hof]; exact (pb_iff _).1 (by assumption)), hof]); rw [hE]; exact RQ_ret (rkvs_cons (rkv_ck rfl rfl rfl) (rkvs_cons (rkv_t rfl) rfl)) hcl (by simp [rks, AV.lt, AV.ltL, ofConst1, ncells]) (Ret_of rfl)
       ·rw [h18]; (try simp only [decide_eq_true_eq, decide_eq_false_iff_not, Bool.not_eq_true', Bool.not_eq_false', Int.not_lt, Int.not_le, Bool.not_true, Bool.not_false, Int.toNat_natCast, tn1, tn2, tm1, tnn, bne_iff_ne, beq_iff_eq, beq_eq_false_iff_ne, ne_eq, Decidable.not_not] at h18)
        refine zv6 ?_
        refine AWp_condF rfl ?_
        refine AWp_exit ?_
        refine AWp_seq ?_
        refine zsr ?_
        have hll : lz d f d.size = l := by rw [← hl1]; exact lz_no (by omega) hl2
        have hxs : (d.extract f l).size ≤ d.size := by rw [ByteArray.size_extract]; omega
        have hnf : nF ⟨ng, dn, pt, pw, d, b, x⟩ = f := hff
        have hnl : nL ⟨ng, dn, pt, pw, d, b, x⟩ = l := by unfold nL; rw [hnf]; exact hll
        have hof : nOf ⟨ng, dn, pt, pw, d, b, x⟩ = ⟨ng, d.extract f l, xx - b + ((d.size : Int) - l)⟩ := by unfold nOf; rw [hnf, hnl, ← hx1]
        refine zv3 ?_
        refine AWp_cond rfl (fun h22 => ?_) (fun h22 => ?_)
        ·(try rw [h22]); (try simp only [decide_eq_true_eq, decide_eq_false_iff_not, Bool.not_eq_true', Bool.not_eq_false', Int.not_lt, Int.not_le, Bool.not_true, Bool.not_false, Int.toNat_natCast, tn1, tn2, tm1, tnn, bne_iff_ne, beq_iff_eq, beq_eq_false_iff_ne, ne_eq, Decidable.not_not] at h22)
         refine zw3 ?_
         refine zrt ?_
         (have hE : rNum s = ({}, 0) := by unfold rNum; rw [if_neg (by simp [h1]; omega), ht, if_pos (by rw [hnf, hnl]; omega)]); rw [hE]; exact RQ_ret (rkvs_cons (rkv_ck rfl rfl rfl) (rkvs_cons (rkv_t rfl) rfl)) hcl (by simp [rks, AV.lt, AV.ltL, ofConst1, ncells]) (Ret_of rfl)
        ·(try rw [h22]); (try simp only [decide_eq_true_eq, decide_eq_false_iff_not, Bool.not_eq_true', Bool.not_eq_false', Int.not_lt, Int.not_le, Bool.not_true, Bool.not_false, Int.toNat_natCast, tn1, tn2, tm1, tnn, bne_iff_ne, beq_iff_eq, beq_eq_false_iff_ne, ne_eq, Decidable.not_not] at h22)
         refine AWp_skip ?_
         refine zu4 ?_
         simp only [Int.toNat_natCast]
         refine zg1 ?_
         refine ztN rfl rfl (op_storeO (r := [.bool ng, .str (d.extract f l), .int .i64 0]) rfl Tryz.sizeOf9 rfl rfl rfl rfl rfl (by decide)) ?_
         refine zon ?_
         refine zu2 ?_
         refine ztN rfl rfl (op_storeO (r := [.bool ng, .str (d.extract f l), .int .i64 (xx - b + ((d.size : Int) - l))]) rfl Tryz.sizeOf3 rfl rfl rfl rfl rfl (by decide)) ?_
         refine zon ?_
         refine zu1 ?_
         refine zt rfl (zc rfl (mayNum_c ⟨ng, d.extract f l, xx - b + ((d.size : Int) - l)⟩ _ (by simp only; omega))) ?_
         refine zv1 ?_
         refine AWp_seq ?_
         refine zw2 ?_
         refine AWp_cond rfl (fun h23 => ?_) (fun h23 => ?_)
         ·(try rw [h23]); (try simp only [decide_eq_true_eq, decide_eq_false_iff_not, Bool.not_eq_true', Bool.not_eq_false', Int.not_lt, Int.not_le, Bool.not_true, Bool.not_false, Int.toNat_natCast, tn1, tn2, tm1, tnn, bne_iff_ne, beq_iff_eq, beq_eq_false_iff_ne, ne_eq, Decidable.not_not] at h23)
          refine zw3 ?_
          refine zrt ?_
          (exfalso; omega; done)
         ·(try rw [h23]); (try simp only [decide_eq_true_eq, decide_eq_false_iff_not, Bool.not_eq_true', Bool.not_eq_false', Int.not_lt, Int.not_le, Bool.not_true, Bool.not_false, Int.toNat_natCast, tn1, tn2, tm1, tnn, bne_iff_ne, beq_iff_eq, beq_eq_false_iff_ne, ne_eq, Decidable.not_not] at h23)
          refine AWp_skip ?_
          refine zw3 ?_
          refine zrt ?_
          (exfalso; omega; done)
     ·rw [h16]; (try simp only [decide_eq_true_eq, decide_eq_false_iff_not, Bool.not_eq_true', Bool.not_eq_false', Int.not_lt, Int.not_le, Bool.not_true, Bool.not_false, Int.toNat_natCast, tn1, tn2, tm1, tnn, bne_iff_ne, beq_iff_eq, beq_eq_false_iff_ne, ne_eq, Decidable.not_not] at h16)
      refine zv5 ?_
      refine AWp_condF rfl ?_
      refine AWp_exit ?_
      refine zw3 ?_
      refine AWp_seq ?_
      refine AWp_block ?_
      -- loop 3 LIVE 2:alloc 3:assign 6:alloc 7:assign 10:assign 15:assign 16:assign
      have hff : fz d 0 = f := by rw [← hf1]; exact fz_no (by omega)
      refine AWp_loop (ι := Nat) (fun l => lz d f l = lz d f d.size ∧ f ≤ l ∧ l ≤ d.size) (fun l => ⟨[], [(2, .ptr (σ.length + 0) 0), (6, .ptr (σ.length + 1) 0), (7, .str d), (10, .int .i64 (xx - b + ((d.size : Int) - l))), (15, .int .i64 (f : Int)), (16, .int .i64 (l : Int))]⟩) (fun l => σ ++ [_, _]) (fun l => l) (d.size) (⟨rfl, hf2, Nat.le_refl _⟩) ?_ rfl (fun l hl => ?_)
      ·refine ⟨rfl, rfl, rfl, rfl, ?_, rfl, rfl, trivial⟩
       rw [Int.sub_self, Int.add_zero]; rfl
      obtain ⟨hl1, hl2, hl3⟩ := hl
      refine AWp_seq ?_
      refine zu4 ?_
      refine zsp 99 rfl (fun h24 => ?_) fun h24 => ?_
      ·rw [h24]; (try simp only [decide_eq_true_eq, decide_eq_false_iff_not, Bool.not_eq_true', Bool.not_eq_false', Int.not_lt, Int.not_le, Bool.not_true, Bool.not_false, Int.toNat_natCast, tn1, tn2, tm1, tnn, bne_iff_ne, beq_iff_eq, beq_eq_false_iff_ne, ne_eq, Decidable.not_not] at h24)
       refine zv6 ?_
       refine AWp_cond rfl (fun h25 => ?_) (fun h25 => ?_)
       ·(try rw [h25]); (try simp only [decide_eq_true_eq, decide_eq_false_iff_not, Bool.not_eq_true', Bool.not_eq_false', Int.not_lt, Int.not_le, Bool.not_true, Bool.not_false, Int.toNat_natCast, tn1, tn2, tm1, tnn, bne_iff_ne, beq_iff_eq, beq_eq_false_iff_ne, ne_eq, Decidable.not_not] at h25)
        refine AWp_skip ?_
        refine AWp_block ?_
        refine zw3 ?_
        refine AWp_regL ?_
        refine zv3 ?_
        refine ⟨l - 1, σ.length + 2, ⟨by rw [← hl1]; exact (lz_yes (by omega) (by omega)).symm, by omega⟩, by omega, by simp, ⟨rfl, rfl, rfl, rfl, ?_, rfl, ?_, trivial⟩, closed_own 2 hcl (by simp [ownLt, AO.cells, AV.ltL, AV.lt]), by simp [ltE, AV.lt], take_own 2⟩
        ·rw [show xx - b + ((d.size : Int) - ((l - 1 : Nat) : Int)) = xx - b + ((d.size : Int) - (l : Int)) + 1 by omega]; rfl
        ·rw [show ((l - 1 : Nat) : Int) = (l : Int) - 1 by omega]; rfl
       ·(try rw [h25]); (try simp only [decide_eq_true_eq, decide_eq_false_iff_not, Bool.not_eq_true', Bool.not_eq_false', Int.not_lt, Int.not_le, Bool.not_true, Bool.not_false, Int.toNat_natCast, tn1, tn2, tm1, tnn, bne_iff_ne, beq_iff_eq, beq_eq_false_iff_ne, ne_eq, Decidable.not_not] at h25)
        refine AWp_exit ?_
        refine AWp_seq ?_
        refine zsr ?_
        have hll : lz d f d.size = l := by rw [← hl1]; exact lz_no (by omega) hl2
        have hxs : (d.extract f l).size ≤ d.size := by rw [ByteArray.size_extract]; omega
        have hnf : nF ⟨ng, dn, pt, pw, d, b, x⟩ = f := hff
        have hnl : nL ⟨ng, dn, pt, pw, d, b, x⟩ = l := by unfold nL; rw [hnf]; exact hll
        have hof : nOf ⟨ng, dn, pt, pw, d, b, x⟩ = ⟨ng, d.extract f l, xx - b + ((d.size : Int) - l)⟩ := by unfold nOf; rw [hnf, hnl, ← hx1]
        refine zv3 ?_
        refine AWp_cond rfl (fun h26 => ?_) (fun h26 => ?_)
        ·(try rw [h26]); (try simp only [decide_eq_true_eq, decide_eq_false_iff_not, Bool.not_eq_true', Bool.not_eq_false', Int.not_lt, Int.not_le, Bool.not_true, Bool.not_false, Int.toNat_natCast, tn1, tn2, tm1, tnn, bne_iff_ne, beq_iff_eq, beq_eq_false_iff_ne, ne_eq, Decidable.not_not] at h26)
         refine zw3 ?_
         refine zrt ?_
         (exfalso; omega; done)
        ·(try rw [h26]); (try simp only [decide_eq_true_eq, decide_eq_false_iff_not, Bool.not_eq_true', Bool.not_eq_false', Int.not_lt, Int.not_le, Bool.not_true, Bool.not_false, Int.toNat_natCast, tn1, tn2, tm1, tnn, bne_iff_ne, beq_iff_eq, beq_eq_false_iff_ne, ne_eq, Decidable.not_not] at h26)
         refine AWp_skip ?_
         refine zu4 ?_
         simp only [Int.toNat_natCast]
         refine zg1 ?_
         refine ztN rfl rfl (op_storeO (r := [.bool ng, .str (d.extract f l), .int .i64 0]) rfl Tryz.sizeOf9 rfl rfl rfl rfl rfl (by decide)) ?_
         refine zon ?_
         refine zu2 ?_
         refine ztN rfl rfl (op_storeO (r := [.bool ng, .str (d.extract f l), .int .i64 (xx - b + ((d.size : Int) - l))]) rfl Tryz.sizeOf3 rfl rfl rfl rfl rfl (by decide)) ?_
         refine zon ?_
         refine zu1 ?_
         refine zt rfl (zc rfl (mayNum_c ⟨ng, d.extract f l, xx - b + ((d.size : Int) - l)⟩ _ (by simp only; omega))) ?_
         refine zv1 ?_
         refine AWp_seq ?_
         refine zw2 ?_
         refine AWp_cond rfl (fun h27 => ?_) (fun h27 => ?_)
         ·(try rw [h27]); (try simp only [decide_eq_true_eq, decide_eq_false_iff_not, Bool.not_eq_true', Bool.not_eq_false', Int.not_lt, Int.not_le, Bool.not_true, Bool.not_false, Int.toNat_natCast, tn1, tn2, tm1, tnn, bne_iff_ne, beq_iff_eq, beq_eq_false_iff_ne, ne_eq, Decidable.not_not] at h27)
          refine zw3 ?_
          refine zrt ?_
          (exfalso; omega; done)
         ·(try rw [h27]); (try simp only [decide_eq_true_eq, decide_eq_false_iff_not, Bool.not_eq_true', Bool.not_eq_false', Int.not_lt, Int.not_le, Bool.not_true, Bool.not_false, Int.toNat_natCast, tn1, tn2, tm1, tnn, bne_iff_ne, beq_iff_eq, beq_eq_false_iff_ne, ne_eq, Decidable.not_not] at h27)
          refine AWp_skip ?_
          refine zw3 ?_
          refine zrt ?_
          (exfalso; omega; done)
      ·rw [h24]; (try simp only [decide_eq_true_eq, decide_eq_false_iff_not, Bool.not_eq_true', Bool.not_eq_false', Int.not_lt, Int.not_le, Bool.not_true, Bool.not_false, Int.toNat_natCast, tn1, tn2, tm1, tnn, bne_iff_ne, beq_iff_eq, beq_eq_false_iff_ne, ne_eq, Decidable.not_not] at h24)
       refine zv6 ?_
       refine AWp_condF rfl ?_
       refine AWp_exit ?_
       refine AWp_seq ?_
       refine zsr ?_
       have hll : lz d f d.size = l := by rw [← hl1]; exact lz_no (by omega) hl2
       have hxs : (d.extract f l).size ≤ d.size := by rw [ByteArray.size_extract]; omega
       have hnf : nF ⟨ng, dn, pt, pw, d, b, x⟩ = f := hff
       have hnl : nL ⟨ng, dn, pt, pw, d, b, x⟩ = l := by unfold nL; rw [hnf]; exact hll
       have hof : nOf ⟨ng, dn, pt, pw, d, b, x⟩ = ⟨ng, d.extract f l, xx - b + ((d.size : Int) - l)⟩ := by unfold nOf; rw [hnf, hnl, ← hx1]
       refine zv3 ?_
       refine AWp_cond rfl (fun h28 => ?_) (fun h28 => ?_)
       ·(try rw [h28]); (try simp only [decide_eq_true_eq, decide_eq_false_iff_not, Bool.not_eq_true', Bool.not_eq_false', Int.not_lt, Int.not_le, Bool.not_true, Bool.not_false, Int.toNat_natCast, tn1, tn2, tm1, tnn, bne_iff_ne, beq_iff_eq, beq_eq_false_iff_ne, ne_eq, Decidable.not_not] at h28)
        refine zw3 ?_
        refine zrt ?_
        (have hE : rNum s = ({}, 0) := by unfold rNum; rw [if_neg (by simp [h1]; omega), ht, if_pos (by rw [hnf, hnl]; omega)]); rw [hE]; exact RQ_ret (rkvs_cons (rkv_ck rfl rfl rfl) (rkvs_cons (rkv_t rfl) rfl)) hcl (by simp [rks, AV.lt, AV.ltL, ofConst1, ncells]) (Ret_of rfl)
       ·(try rw [h28]); (try simp only [decide_eq_true_eq, decide_eq_false_iff_not, Bool.not_eq_true', Bool.not_eq_false', Int.not_lt, Int.not_le, Bool.not_true, Bool.not_false, Int.toNat_natCast, tn1, tn2, tm1, tnn, bne_iff_ne, beq_iff_eq, beq_eq_false_iff_ne, ne_eq, Decidable.not_not] at h28)
        refine AWp_skip ?_
        refine zu4 ?_
        simp only [Int.toNat_natCast]
        refine zg1 ?_
        refine ztN rfl rfl (op_storeO (r := [.bool ng, .str (d.extract f l), .int .i64 0]) rfl Tryz.sizeOf9 rfl rfl rfl rfl rfl (by decide)) ?_
        refine zon ?_
        refine zu2 ?_
        refine ztN rfl rfl (op_storeO (r := [.bool ng, .str (d.extract f l), .int .i64 (xx - b + ((d.size : Int) - l))]) rfl Tryz.sizeOf3 rfl rfl rfl rfl rfl (by decide)) ?_
        refine zon ?_
        refine zu1 ?_
        refine zt rfl (zc rfl (mayNum_c ⟨ng, d.extract f l, xx - b + ((d.size : Int) - l)⟩ _ (by simp only; omega))) ?_
        refine zv1 ?_
        refine AWp_seq ?_
        refine zw2 ?_
        refine AWp_cond rfl (fun h29 => ?_) (fun h29 => ?_)
        ·(try rw [h29]); (try simp only [decide_eq_true_eq, decide_eq_false_iff_not, Bool.not_eq_true', Bool.not_eq_false', Int.not_lt, Int.not_le, Bool.not_true, Bool.not_false, Int.toNat_natCast, tn1, tn2, tm1, tnn, bne_iff_ne, beq_iff_eq, beq_eq_false_iff_ne, ne_eq, Decidable.not_not] at h29)
         refine zw3 ?_
         refine zrt ?_
         (exfalso; omega; done)
        ·(try rw [h29]); (try simp only [decide_eq_true_eq, decide_eq_false_iff_not, Bool.not_eq_true', Bool.not_eq_false', Int.not_lt, Int.not_le, Bool.not_true, Bool.not_false, Int.toNat_natCast, tn1, tn2, tm1, tnn, bne_iff_ne, beq_iff_eq, beq_eq_false_iff_ne, ne_eq, Decidable.not_not] at h29)
         refine AWp_skip ?_
         refine zw3 ?_
         refine zrt ?_
         (exfalso; omega; done)
end Lg
set_option maxRecDepth 20000
set_option maxHeartbeats 4000000
namespace Lg
open Go Go.Proofs Go.RowKit
variable [GLay] 
theorem value_r (s : ByteArray) (hs : s.size ≤ 100000) : ∀ (n : Nat) (r : RS) (p : Nat) (σ : List AO), σ[p]? = some (rbox s r) → ROK s r → s.size + 1 < n + r.a → ACalls Tryz.prog 61 [.ptr p 0] σ (Ret (.agg (vcells (rval n s r).1)) (σ.set p (rbox s (rval n s r).2))) := by
 intro n
 induction n with
 | zero => intro r p σ hσ h hn; exfalso; have := h.a; omega
 | succ n ih =>
 intro r p σ hσ h hn
 have hp : p < σ.length := (List.getElem?_eq_some_iff.1 hσ).1
 have hb1 := rblank_to h
 have hta := hb1.a
 refine ACalls_bodyC Tryz.func61 rfl Tryz.ntmps61 (by rw [Tryz.results61]; exact (.ck Tryz.isAgg28 Tryz.sizeOf28 .nil)) (Nat.le_of_ble_eq_true rfl) (fun hcl hal => ?_)
 refine AWp_heap (set_same hσ) ?_
 refine zw1 ?_
 refine zw1 ?_
 refine zu1 ?_
 refine zt rfl (zc rfl (callSA hp (blank_r s r p _ (get_setA hp) hs h))) ?_
 refine zon ?_
 refine AWp_seq ?_
 have hres : rval (n + 1) s r = ((rone (rval n s) s (rblank s r)).1, rblank s (rone (rval n s) s (rblank s r)).2) := rfl
 generalize rblank s r = t at hb1 hta hres ⊢
 have htk := hb1.ok.a
 have htb := hb1.ok.b
 have hn2 : s.size + 1 < n + t.a + 1 := by omega
 refine AWp_regL ?_
 refine zg1 ?_
 refine zt rfl (zc rfl (peek_r s t p _ (get_setA hp))) ?_
 refine zv1 ?_
 refine AWp_join (ι := AV × AV × List AO) (fun z => AVle z.1 (.sl false 8 (lcells (rone (rval n s) s t).1.l)) ∧ AVle z.2.1 (.sl false 9 (mcells (rone (rval n s) s t).1.m))) (fun z => ⟨[], [(0, .ptr p 0), (2, .ptr (σ.length + 0) 0), (3, .ptr (σ.length + 1) 0)]⟩) (fun z => σ.set p (rbox s (rone (rval n s) s t).2) ++ ([.box [.int .i64 0, .bool false, .bool false, .str e0, .int .i64 0, .str e0, .nils, .nils], .box [.int .i64 (rone (rval n s) s t).1.kind, .bool (rone (rval n s) s t).1.b, .bool (rone (rval n s) s t).1.n.neg, .str (rone (rval n s) s t).1.n.digits, .int .i64 (rone (rval n s) s t).1.n.exp, .str (rone (rval n s) s t).1.s, z.1, z.2.1]] ++ z.2.2)) ?_ (fun z hj => ?_)
 ·skip
  refine zw2 ?_
  refine AWp_cond rfl (fun h1 => ?_) (fun h1 => ?_)
  ·(try rw [h1]); (try simp only [decide_eq_true_eq, decide_eq_false_iff_not, Bool.not_eq_true', Bool.not_eq_false', Int.not_lt, Int.not_le, Bool.not_true, Bool.not_false, Int.toNat_natCast, tn1, tn2, tnn, bne_iff_ne, beq_iff_eq, beq_eq_false_iff_ne, ne_eq, Decidable.not_not] at h1)
   have hpk := pk_yes (s := s) (a := t.a) (bad := t.bad) (by omega)
   refine AWp_regL ?_
   refine zg1 ?_
   refine zt rfl (zc rfl (callSA hp (object_r s n ih t p _ (get_setA hp) hs hb1.ok hpk.1 hpk.2.1 hn2))) ?_
   rw [vcells_eq (robj (rval n s) s t).1]
   refine zv1 ?_
   have hone : rone (rval n s) s t = robj (rval n s) s t := by unfold rone; rw [if_pos (by omega)]
   simp only [hone]
   exact ⟨(.sl false 8 (lcells (robj (rval n s) s t).1.l), .sl false 9 (mcells (robj (rval n s) s t).1.m), _), ⟨AVle.refl _, AVle.refl _⟩, ⟨rfl, rfl, rfl, rfl, trivial⟩, rfl⟩
  ·(try rw [h1]); (try simp only [decide_eq_true_eq, decide_eq_false_iff_not, Bool.not_eq_true', Bool.not_eq_false', Int.not_lt, Int.not_le, Bool.not_true, Bool.not_false, Int.toNat_natCast, tn1, tn2, tnn, bne_iff_ne, beq_iff_eq, beq_eq_false_iff_ne, ne_eq, Decidable.not_not] at h1)
   refine zw2 ?_
   refine AWp_cond rfl (fun h2 => ?_) (fun h2 => ?_)
   ·(try rw [h2]); (try simp only [decide_eq_true_eq, decide_eq_false_iff_not, Bool.not_eq_true', Bool.not_eq_false', Int.not_lt, Int.not_le, Bool.not_true, Bool.not_false, Int.toNat_natCast, tn1, tn2, tnn, bne_iff_ne, beq_iff_eq, beq_eq_false_iff_ne, ne_eq, Decidable.not_not] at h2)
    have hpk := pk_yes (s := s) (a := t.a) (bad := t.bad) (by omega)
    refine AWp_regL ?_
    refine zg1 ?_
    refine zt rfl (zc rfl (callSA hp (array_r s n ih t p _ (get_setA hp) hs hb1.ok hpk.1 hpk.2.1 hn2))) ?_
    rw [vcells_eq (rarr (rval n s) s t).1]
    refine zv1 ?_
    have hone : rone (rval n s) s t = rarr (rval n s) s t := by unfold rone; rw [if_neg (by omega), if_pos (by omega)]
    simp only [hone]
    exact ⟨(.sl false 8 (lcells (rarr (rval n s) s t).1.l), .sl false 9 (mcells (rarr (rval n s) s t).1.m), _), ⟨AVle.refl _, AVle.refl _⟩, ⟨rfl, rfl, rfl, rfl, trivial⟩, rfl⟩
   ·(try rw [h2]); (try simp only [decide_eq_true_eq, decide_eq_false_iff_not, Bool.not_eq_true', Bool.not_eq_false', Int.not_lt, Int.not_le, Bool.not_true, Bool.not_false, Int.toNat_natCast, tn1, tn2, tnn, bne_iff_ne, beq_iff_eq, beq_eq_false_iff_ne, ne_eq, Decidable.not_not] at h2)
    refine zw2 ?_
    refine AWp_cond rfl (fun h3 => ?_) (fun h3 => ?_)
    ·(try rw [h3]); (try simp only [decide_eq_true_eq, decide_eq_false_iff_not, Bool.not_eq_true', Bool.not_eq_false', Int.not_lt, Int.not_le, Bool.not_true, Bool.not_false, Int.toNat_natCast, tn1, tn2, tnn, bne_iff_ne, beq_iff_eq, beq_eq_false_iff_ne, ne_eq, Decidable.not_not] at h3)
     refine AWp_regL ?_
     refine zg1 ?_
     refine zt rfl (zc rfl (callSA hp (text_r s t p _ (get_setA hp) hs hb1.ok))) ?_
     refine zv2 ?_
     have hone : rone (rval n s) s t = (.mk 3 false {} (rtext s t).1 [] [], (rtext s t).2) := by unfold rone; rw [if_neg (by omega), if_neg (by omega), if_pos (by omega)]
     simp only [hone]
     exact ⟨(.nils, .nils, _), ⟨nilL, nilM⟩, ⟨rfl, rfl, rfl, rfl, trivial⟩, rfl⟩
    ·(try rw [h3]); (try simp only [decide_eq_true_eq, decide_eq_false_iff_not, Bool.not_eq_true', Bool.not_eq_false', Int.not_lt, Int.not_le, Bool.not_true, Bool.not_false, Int.toNat_natCast, tn1, tn2, tnn, bne_iff_ne, beq_iff_eq, beq_eq_false_iff_ne, ne_eq, Decidable.not_not] at h3)
     refine zw2 ?_
     refine AWp_cond rfl (fun h4 => ?_) (fun h4 => ?_)
     ·(try rw [h4]); (try simp only [decide_eq_true_eq, decide_eq_false_iff_not, Bool.not_eq_true', Bool.not_eq_false', Int.not_lt, Int.not_le, Bool.not_true, Bool.not_false, Int.toNat_natCast, tn1, tn2, tnn, bne_iff_ne, beq_iff_eq, beq_eq_false_iff_ne, ne_eq, Decidable.not_not] at h4)
      refine AWp_regL ?_
      refine zg1 ?_
      refine zt rfl (zc rfl (callSA hp (want_c lNull s t p _ (get_setA hp) hs (by decide) hb1.ok))) ?_
      refine zon ?_
      have hone : rone (rval n s) s t = (vz, rwant s lNull t) := by unfold rone; rw [if_neg (by omega), if_neg (by omega), if_neg (by omega), if_pos (by omega)]
      simp only [hone]
      exact ⟨(.nils, .nils, _), ⟨nilL, nilM⟩, ⟨rfl, rfl, rfl, rfl, trivial⟩, rfl⟩
     ·(try rw [h4]); (try simp only [decide_eq_true_eq, decide_eq_false_iff_not, Bool.not_eq_true', Bool.not_eq_false', Int.not_lt, Int.not_le, Bool.not_true, Bool.not_false, Int.toNat_natCast, tn1, tn2, tnn, bne_iff_ne, beq_iff_eq, beq_eq_false_iff_ne, ne_eq, Decidable.not_not] at h4)
      refine zw2 ?_
      refine AWp_cond rfl (fun h5 => ?_) (fun h5 => ?_)
      ·(try rw [h5]); (try simp only [decide_eq_true_eq, decide_eq_false_iff_not, Bool.not_eq_true', Bool.not_eq_false', Int.not_lt, Int.not_le, Bool.not_true, Bool.not_false, Int.toNat_natCast, tn1, tn2, tnn, bne_iff_ne, beq_iff_eq, beq_eq_false_iff_ne, ne_eq, Decidable.not_not] at h5)
       refine zu1 ?_
       refine zt rfl (zc rfl (callSA hp (want_c lTrue s t p _ (get_setA hp) hs (by decide) hb1.ok))) ?_
       refine zon ?_
       refine AWp_regL ?_
       refine zv2 ?_
       have hone : rone (rval n s) s t = (.mk 1 true {} e0 [] [], rwant s lTrue t) := by unfold rone; rw [if_neg (by omega), if_neg (by omega), if_neg (by omega), if_neg (by omega), if_pos (by omega)]
       simp only [hone]
       exact ⟨(.nils, .nils, _), ⟨nilL, nilM⟩, ⟨rfl, rfl, rfl, rfl, trivial⟩, rfl⟩
      ·(try rw [h5]); (try simp only [decide_eq_true_eq, decide_eq_false_iff_not, Bool.not_eq_true', Bool.not_eq_false', Int.not_lt, Int.not_le, Bool.not_true, Bool.not_false, Int.toNat_natCast, tn1, tn2, tnn, bne_iff_ne, beq_iff_eq, beq_eq_false_iff_ne, ne_eq, Decidable.not_not] at h5)
       refine zw2 ?_
       refine AWp_cond rfl (fun h6 => ?_) (fun h6 => ?_)
       ·(try rw [h6]); (try simp only [decide_eq_true_eq, decide_eq_false_iff_not, Bool.not_eq_true', Bool.not_eq_false', Int.not_lt, Int.not_le, Bool.not_true, Bool.not_false, Int.toNat_natCast, tn1, tn2, tnn, bne_iff_ne, beq_iff_eq, beq_eq_false_iff_ne, ne_eq, Decidable.not_not] at h6)
        refine zu1 ?_
        refine zt rfl (zc rfl (callSA hp (want_c lFalse s t p _ (get_setA hp) hs (by decide) hb1.ok))) ?_
        refine zon ?_
        refine AWp_regL ?_
        refine zv2 ?_
        have hone : rone (rval n s) s t = (.mk 1 false {} e0 [] [], rwant s lFalse t) := by unfold rone; rw [if_neg (by omega), if_neg (by omega), if_neg (by omega), if_neg (by omega), if_neg (by omega), if_pos (by omega)]
        simp only [hone]
        exact ⟨(.nils, .nils, _), ⟨nilL, nilM⟩, ⟨rfl, rfl, rfl, rfl, trivial⟩, rfl⟩
       ·(try rw [h6]); (try simp only [decide_eq_true_eq, decide_eq_false_iff_not, Bool.not_eq_true', Bool.not_eq_false', Int.not_lt, Int.not_le, Bool.not_true, Bool.not_false, Int.toNat_natCast, tn1, tn2, tnn, bne_iff_ne, beq_iff_eq, beq_eq_false_iff_ne, ne_eq, Decidable.not_not] at h6)
        refine zu3 ?_
        refine zsp 42 rfl (fun h7 => ?_) fun h7 => ?_
        ·rw [h7]; (try simp only [decide_eq_true_eq, decide_eq_false_iff_not, Bool.not_eq_true', Bool.not_eq_false', Int.not_lt, Int.not_le, Bool.not_true, Bool.not_false, Int.toNat_natCast, tn1, tn2, tnn, bne_iff_ne, beq_iff_eq, beq_eq_false_iff_ne, ne_eq, Decidable.not_not] at h7)
         refine zv7 ?_
         refine AWp_condT rfl ?_
         refine AWp_seq ?_
         have hpk := pk_yes (s := s) (a := t.a) (bad := t.bad) (by omega)
         have hel := rEnd_le (s := s) (a := t.a) (by omega)
         refine AWp_drawL #[0, 1, 3, 7, 0, 16, 48, 112, 255, 511, 1023, 1023, 2047, 8191] Tryz.mixed (by decide +kernel) (by decide +kernel) ?_
         refine zd3 ?_
         refine zp1 ?_
         refine zd3 ?_
         refine zp1 ?_
         refine yP rfl rfl (zc rfl (end_c s t.a _ (by omega) (by omega))) (trivial) ?_
         refine zd5 ?_
         refine RP.nil rfl ?_
         refine AWp_join (ι := RS) (fun y => y = (if (rEnd s t.a).2 = true then t else rfail t (rEnd s t.a).1 1) ∧ y.a = t.a ∧ y.deep = t.deep) (fun y => ⟨[], [(0, .ptr p 0), (2, .ptr (σ.length + 0) 0), (3, .ptr (σ.length + 1) 0), (5, .int .i64 ((rEnd s t.a).1 : Int))]⟩) (fun y => σ.set p (rbox s y) ++ [.box [.int .i64 0, .bool false, .bool false, .str e0, .int .i64 0, .str e0, .nils, .nils], .box [.int .i64 0, .bool false, .bool false, .str e0, .int .i64 0, .str e0, .nils, .nils]]) ?_ (fun y hj => ?_)
         ·skip
          refine zw2 ?_
          refine AWp_cond rfl (fun h8 => ?_) (fun h8 => ?_)
          ·(try rw [h8]); (try simp only [decide_eq_true_eq, decide_eq_false_iff_not, Bool.not_eq_true', Bool.not_eq_false', Int.not_lt, Int.not_le, Bool.not_true, Bool.not_false, Int.toNat_natCast, tn1, tn2, tnn, bne_iff_ne, beq_iff_eq, beq_eq_false_iff_ne, ne_eq, Decidable.not_not] at h8)
           refine AWp_regL ?_
           refine zg2 ?_
           refine zt rfl (zc rfl (callSA hp (fail_r s t p _ (get_setA hp) ((rEnd s t.a).1 : Int) 1))) ?_
           refine zon ?_
           exact ⟨rfail t (rEnd s t.a).1 1, ⟨by rw [if_neg (by simp [*])], rfl, rfl⟩, ⟨rfl, rfl, rfl, rfl, rfl, trivial⟩, rfl⟩
          ·(try rw [h8]); (try simp only [decide_eq_true_eq, decide_eq_false_iff_not, Bool.not_eq_true', Bool.not_eq_false', Int.not_lt, Int.not_le, Bool.not_true, Bool.not_false, Int.toNat_natCast, tn1, tn2, tnn, bne_iff_ne, beq_iff_eq, beq_eq_false_iff_ne, ne_eq, Decidable.not_not] at h8)
           refine AWp_skip ?_
           exact ⟨t, ⟨by rw [if_pos (by simp [*])], rfl, rfl⟩, ⟨rfl, rfl, rfl, rfl, rfl, trivial⟩, rfl⟩
         ·skip
          obtain ⟨hy1, hy2, hy3⟩ := hj
          refine AWp_seq ?_
          refine AWp_drawL #[0, 1, 3, 7, 0, 16, 48, 112, 0, 511, 1023, 2047, 4095, 4095, 0, 24575, 65535] Tryz.mixed (by decide +kernel) (by decide +kernel) ?_
          refine zd3 ?_
          refine zp1 ?_
          refine zd3 ?_
          refine zp1 ?_
          refine zd2 ?_
          simp only [Int.toNat_natCast, hy2]
          refine yP rfl rfl (zc rfl (rnum_c (s.extract t.a (rEnd s t.a).1) _ (by rw [ByteArray.size_extract]; omega))) (trivial) ?_
          refine zd3 ?_
          refine yE rfl rfl (zoa) (⟨.inr (op_callF rfl rfl rfl Tryz.func95 rfl rfl (rnum_c (s.extract t.a (rEnd s t.a).1) _ (by rw [ByteArray.size_extract]; omega))), ⟨.inr (op_load1 rfl Tryz.isAgg3 (ldv_setA hp (by rw [← hy2]; rfl))), ⟨.inr (op_load1 rfl Tryz.isAgg9 (ldv_setA hp rfl)), trivial⟩⟩⟩) (trivial) ?_
          refine yEN rfl rfl rfl (zoa) (⟨.inl rfl, ⟨.inl rfl, ⟨.inl rfl, trivial⟩⟩⟩) (⟨rfl, trivial⟩) ?_
          refine zd1 ?_
          refine RP.nil rfl ?_
          refine AWp_join (ι := RS) (fun x => x = (if (rNum (s.extract t.a (rEnd s t.a).1)).2 = 0 then (if (rEnd s t.a).2 = true then t else rfail t (rEnd s t.a).1 1) else rfail (if (rEnd s t.a).2 = true then t else rfail t (rEnd s t.a).1 1) t.a 5) ∧ x.a = t.a ∧ x.deep = t.deep) (fun x => ⟨[], [(0, .ptr p 0), (2, .ptr (σ.length + 0) 0), (3, .ptr (σ.length + 1) 0), (5, .int .i64 ((rEnd s t.a).1 : Int)), (7, .ptr (σ.length + 2) 0)]⟩) (fun x => σ.set p (rbox s x) ++ [.box [.int .i64 0, .bool false, .bool false, .str e0, .int .i64 0, .str e0, .nils, .nils], .box [.int .i64 0, .bool false, .bool false, .str e0, .int .i64 0, .str e0, .nils, .nils], .box (ncells (rNum (s.extract t.a (rEnd s t.a).1)).1)]) ?_ (fun x hj => ?_)
          ·skip
           refine zw2 ?_
           refine AWp_cond rfl (fun h9 => ?_) (fun h9 => ?_)
           ·(try rw [h9]); (try simp only [decide_eq_true_eq, decide_eq_false_iff_not, Bool.not_eq_true', Bool.not_eq_false', Int.not_lt, Int.not_le, Bool.not_true, Bool.not_false, Int.toNat_natCast, tn1, tn2, tnn, bne_iff_ne, beq_iff_eq, beq_eq_false_iff_ne, ne_eq, Decidable.not_not] at h9)
            refine AWp_regL ?_
            refine zg5 ?_
            refine zt rfl (zc rfl (callSA hp (fail_r s y p _ (get_setA hp) (y.a : Int) 5))) ?_
            refine zon ?_
            exact ⟨rfail y y.a 5, ⟨by rw [if_neg (by assumption), ← hy1, hy2], hy2, hy3⟩, ⟨rfl, rfl, rfl, rfl, rfl, rfl, trivial⟩, rfl⟩
           ·(try rw [h9]); (try simp only [decide_eq_true_eq, decide_eq_false_iff_not, Bool.not_eq_true', Bool.not_eq_false', Int.not_lt, Int.not_le, Bool.not_true, Bool.not_false, Int.toNat_natCast, tn1, tn2, tnn, bne_iff_ne, beq_iff_eq, beq_eq_false_iff_ne, ne_eq, Decidable.not_not] at h9)
            refine AWp_skip ?_
            exact ⟨y, ⟨by rw [if_pos (by assumption), ← hy1], hy2, hy3⟩, ⟨rfl, rfl, rfl, rfl, rfl, rfl, trivial⟩, rfl⟩
          ·skip
           obtain ⟨hx1, hx2, hx3⟩ := hj
           refine zw5 ?_
           refine AWp_regL ?_
           refine zv3 ?_
           have hone : rone (rval n s) s t = rnumv s t := by unfold rone; rw [if_neg (by omega), if_neg (by omega), if_neg (by omega), if_neg (by omega), if_neg (by omega), if_neg (by omega), if_pos (by omega)]
           have hnum : rnumv s t = (.mk 2 false (rNum (s.extract t.a (rEnd s t.a).1)).1 e0 [] [], ⟨(rEnd s t.a).1, x.deep, x.bad, x.spot⟩) := by rw [hx3]; unfold rnumv; rw [← hx1]
           simp only [hone, hnum]
           exact ⟨(.nils, .nils, _), ⟨nilL, nilM⟩, ⟨rfl, rfl, rfl, rfl, trivial⟩, rfl⟩
        ·rw [h7]; (try simp only [decide_eq_true_eq, decide_eq_false_iff_not, Bool.not_eq_true', Bool.not_eq_false', Int.not_lt, Int.not_le, Bool.not_true, Bool.not_false, Int.toNat_natCast, tn1, tn2, tnn, bne_iff_ne, beq_iff_eq, beq_eq_false_iff_ne, ne_eq, Decidable.not_not] at h7)
         refine zg3 ?_
         refine zsp 45 rfl (fun h10 => ?_) fun h10 => ?_
         ·rw [h10]; (try simp only [decide_eq_true_eq, decide_eq_false_iff_not, Bool.not_eq_true', Bool.not_eq_false', Int.not_lt, Int.not_le, Bool.not_true, Bool.not_false, Int.toNat_natCast, tn1, tn2, tnn, bne_iff_ne, beq_iff_eq, beq_eq_false_iff_ne, ne_eq, Decidable.not_not] at h10)
          refine zv4 ?_
          refine AWp_cond rfl (fun h11 => ?_) (fun h11 => ?_)
          ·(try rw [h11]); (try simp only [decide_eq_true_eq, decide_eq_false_iff_not, Bool.not_eq_true', Bool.not_eq_false', Int.not_lt, Int.not_le, Bool.not_true, Bool.not_false, Int.toNat_natCast, tn1, tn2, tnn, bne_iff_ne, beq_iff_eq, beq_eq_false_iff_ne, ne_eq, Decidable.not_not] at h11)
           refine AWp_seq ?_
           have hpk := pk_yes (s := s) (a := t.a) (bad := t.bad) (by omega)
           have hel := rEnd_le (s := s) (a := t.a) (by omega)
           refine AWp_drawL #[0, 1, 3, 7, 0, 16, 48, 112, 255, 511, 1023, 1023, 2047, 8191] Tryz.mixed (by decide +kernel) (by decide +kernel) ?_
           refine zd3 ?_
           refine zp1 ?_
           refine zd3 ?_
           refine zp1 ?_
           refine yP rfl rfl (zc rfl (end_c s t.a _ (by omega) (by omega))) (trivial) ?_
           refine zd5 ?_
           refine RP.nil rfl ?_
           refine AWp_join (ι := RS) (fun y => y = (if (rEnd s t.a).2 = true then t else rfail t (rEnd s t.a).1 1) ∧ y.a = t.a ∧ y.deep = t.deep) (fun y => ⟨[], [(0, .ptr p 0), (2, .ptr (σ.length + 0) 0), (3, .ptr (σ.length + 1) 0), (5, .int .i64 ((rEnd s t.a).1 : Int))]⟩) (fun y => σ.set p (rbox s y) ++ [.box [.int .i64 0, .bool false, .bool false, .str e0, .int .i64 0, .str e0, .nils, .nils], .box [.int .i64 0, .bool false, .bool false, .str e0, .int .i64 0, .str e0, .nils, .nils]]) ?_ (fun y hj => ?_)
           ·skip
            refine zw2 ?_
            refine AWp_cond rfl (fun h12 => ?_) (fun h12 => ?_)
            ·(try rw [h12]); (try simp only [decide_eq_true_eq, decide_eq_false_iff_not, Bool.not_eq_true', Bool.not_eq_false', Int.not_lt, Int.not_le, Bool.not_true, Bool.not_false, Int.toNat_natCast, tn1, tn2, tnn, bne_iff_ne, beq_iff_eq, beq_eq_false_iff_ne, ne_eq, Decidable.not_not] at h12)
             refine AWp_regL ?_
             refine zg2 ?_
             refine zt rfl (zc rfl (callSA hp (fail_r s t p _ (get_setA hp) ((rEnd s t.a).1 : Int) 1))) ?_
             refine zon ?_
             exact ⟨rfail t (rEnd s t.a).1 1, ⟨by rw [if_neg (by simp [*])], rfl, rfl⟩, ⟨rfl, rfl, rfl, rfl, rfl, trivial⟩, rfl⟩
            ·(try rw [h12]); (try simp only [decide_eq_true_eq, decide_eq_false_iff_not, Bool.not_eq_true', Bool.not_eq_false', Int.not_lt, Int.not_le, Bool.not_true, Bool.not_false, Int.toNat_natCast, tn1, tn2, tnn, bne_iff_ne, beq_iff_eq, beq_eq_false_iff_ne, ne_eq, Decidable.not_not] at h12)
             refine AWp_skip ?_
             exact ⟨t, ⟨by rw [if_pos (by simp [*])], rfl, rfl⟩, ⟨rfl, rfl, rfl, rfl, rfl, trivial⟩, rfl⟩
           ·skip
            obtain ⟨hy1, hy2, hy3⟩ := hj
            refine AWp_seq ?_
            refine AWp_drawL #[0, 1, 3, 7, 0, 16, 48, 112, 0, 511, 1023, 2047, 4095, 4095, 0, 24575, 65535] Tryz.mixed (by decide +kernel) (by decide +kernel) ?_
            refine zd3 ?_
            refine zp1 ?_
            refine zd3 ?_
            refine zp1 ?_
            refine zd2 ?_
            simp only [Int.toNat_natCast, hy2]
            refine yP rfl rfl (zc rfl (rnum_c (s.extract t.a (rEnd s t.a).1) _ (by rw [ByteArray.size_extract]; omega))) (trivial) ?_
            refine zd3 ?_
            refine yE rfl rfl (zoa) (⟨.inr (op_callF rfl rfl rfl Tryz.func95 rfl rfl (rnum_c (s.extract t.a (rEnd s t.a).1) _ (by rw [ByteArray.size_extract]; omega))), ⟨.inr (op_load1 rfl Tryz.isAgg3 (ldv_setA hp (by rw [← hy2]; rfl))), ⟨.inr (op_load1 rfl Tryz.isAgg9 (ldv_setA hp rfl)), trivial⟩⟩⟩) (trivial) ?_
            refine yEN rfl rfl rfl (zoa) (⟨.inl rfl, ⟨.inl rfl, ⟨.inl rfl, trivial⟩⟩⟩) (⟨rfl, trivial⟩) ?_
            refine zd1 ?_
            refine RP.nil rfl ?_
            refine AWp_join (ι := RS) (fun x => x = (if (rNum (s.extract t.a (rEnd s t.a).1)).2 = 0 then (if (rEnd s t.a).2 = true then t else rfail t (rEnd s t.a).1 1) else rfail (if (rEnd s t.a).2 = true then t else rfail t (rEnd s t.a).1 1) t.a 5) ∧ x.a = t.a ∧ x.deep = t.deep) (fun x => ⟨[], [(0, .ptr p 0), (2, .ptr (σ.length + 0) 0), (3, .ptr (σ.length + 1) 0), (5, .int .i64 ((rEnd s t.a).1 : Int)), (7, .ptr (σ.length + 2) 0)]⟩) (fun x => σ.set p (rbox s x) ++ [.box [.int .i64 0, .bool false, .bool false, .str e0, .int .i64 0, .str e0, .nils, .nils], .box [.int .i64 0, .bool false, .bool false, .str e0, .int .i64 0, .str e0, .nils, .nils], .box (ncells (rNum (s.extract t.a (rEnd s t.a).1)).1)]) ?_ (fun x hj => ?_)
            ·skip
             refine zw2 ?_
             refine AWp_cond rfl (fun h13 => ?_) (fun h13 => ?_)
             ·(try rw [h13]); (try simp only [decide_eq_true_eq, decide_eq_false_iff_not, Bool.not_eq_true', Bool.not_eq_false', Int.not_lt, Int.not_le, Bool.not_true, Bool.not_false, Int.toNat_natCast, tn1, tn2, tnn, bne_iff_ne, beq_iff_eq, beq_eq_false_iff_ne, ne_eq, Decidable.not_not] at h13)
              refine AWp_regL ?_
              refine zg5 ?_
              refine zt rfl (zc rfl (callSA hp (fail_r s y p _ (get_setA hp) (y.a : Int) 5))) ?_
              refine zon ?_
              exact ⟨rfail y y.a 5, ⟨by rw [if_neg (by assumption), ← hy1, hy2], hy2, hy3⟩, ⟨rfl, rfl, rfl, rfl, rfl, rfl, trivial⟩, rfl⟩
             ·(try rw [h13]); (try simp only [decide_eq_true_eq, decide_eq_false_iff_not, Bool.not_eq_true', Bool.not_eq_false', Int.not_lt, Int.not_le, Bool.not_true, Bool.not_false, Int.toNat_natCast, tn1, tn2, tnn, bne_iff_ne, beq_iff_eq, beq_eq_false_iff_ne, ne_eq, Decidable.not_not] at h13)
              refine AWp_skip ?_
              exact ⟨y, ⟨by rw [if_pos (by assumption), ← hy1], hy2, hy3⟩, ⟨rfl, rfl, rfl, rfl, rfl, rfl, trivial⟩, rfl⟩
            ·skip
             obtain ⟨hx1, hx2, hx3⟩ := hj
             refine zw5 ?_
             refine AWp_regL ?_
             refine zv3 ?_
             have hone : rone (rval n s) s t = rnumv s t := by unfold rone; rw [if_neg (by omega), if_neg (by omega), if_neg (by omega), if_neg (by omega), if_neg (by omega), if_neg (by omega), if_pos (by omega)]
             have hnum : rnumv s t = (.mk 2 false (rNum (s.extract t.a (rEnd s t.a).1)).1 e0 [] [], ⟨(rEnd s t.a).1, x.deep, x.bad, x.spot⟩) := by rw [hx3]; unfold rnumv; rw [← hx1]
             simp only [hone, hnum]
             exact ⟨(.nils, .nils, _), ⟨nilL, nilM⟩, ⟨rfl, rfl, rfl, rfl, trivial⟩, rfl⟩
          ·(try rw [h11]); (try simp only [decide_eq_true_eq, decide_eq_false_iff_not, Bool.not_eq_true', Bool.not_eq_false', Int.not_lt, Int.not_le, Bool.not_true, Bool.not_false, Int.toNat_natCast, tn1, tn2, tnn, bne_iff_ne, beq_iff_eq, beq_eq_false_iff_ne, ne_eq, Decidable.not_not] at h11)
           refine AWp_regL ?_
           refine zg5 ?_
           refine zt rfl (zc rfl (callSA hp (fail_r s t p _ (get_setA hp) (t.a : Int) 1))) ?_
           refine zon ?_
           have hone : rone (rval n s) s t = (vz, rfail t t.a 1) := by unfold rone; rw [if_neg (by omega), if_neg (by omega), if_neg (by omega), if_neg (by omega), if_neg (by omega), if_neg (by omega), if_neg (by omega)]
           simp only [hone]
           exact ⟨(.nils, .nils, _), ⟨nilL, nilM⟩, ⟨rfl, rfl, rfl, rfl, trivial⟩, rfl⟩
         ·rw [h10]; (try simp only [decide_eq_true_eq, decide_eq_false_iff_not, Bool.not_eq_true', Bool.not_eq_false', Int.not_lt, Int.not_le, Bool.not_true, Bool.not_false, Int.toNat_natCast, tn1, tn2, tnn, bne_iff_ne, beq_iff_eq, beq_eq_false_iff_ne, ne_eq, Decidable.not_not] at h10)
          refine zv4 ?_
          refine AWp_condF rfl ?_
          refine AWp_regL ?_
          refine zg5 ?_
          refine zt rfl (zc rfl (callSA hp (fail_r s t p _ (get_setA hp) (t.a : Int) 1))) ?_
          refine zon ?_
          have hone : rone (rval n s) s t = (vz, rfail t t.a 1) := by unfold rone; rw [if_neg (by omega), if_neg (by omega), if_neg (by omega), if_neg (by omega), if_neg (by omega), if_neg (by omega), if_neg (by omega)]
          simp only [hone]
          exact ⟨(.nils, .nils, _), ⟨nilL, nilM⟩, ⟨rfl, rfl, rfl, rfl, trivial⟩, rfl⟩
 ·skip
  obtain ⟨L, M, w⟩ := z
  obtain ⟨hL, hM⟩ := hj
  simp only at hL hM ⊢
  refine AWp_seq ?_
  have hok := rone_ok hs (fun r h => rval_ok hs n r h) hb1.ok
  refine AWp_boxLeS 1 (bs' := [.int .i64 (rone (rval n s) s t).1.kind, .bool (rone (rval n s) s t).1.b, .bool (rone (rval n s) s t).1.n.neg, .str (rone (rval n s) s t).1.n.digits, .int .i64 (rone (rval n s) s t).1.n.exp, .str (rone (rval n s) s t).1.s, .sl false 8 (lcells (rone (rval n s) s t).1.l), .sl false 9 (mcells (rone (rval n s) s t).1.m)]) rfl ⟨AVle.refl _, AVle.refl _, AVle.refl _, AVle.refl _, AVle.refl _, AVle.refl _, hL, hM, trivial⟩ ?_
  refine AWp_regL ?_
  refine zg1 ?_
  refine zt rfl (zc rfl (callSA hp (blank_r s (rone (rval n s) s t).2 p _ (get_setA hp) hs hok.fwd.ok))) ?_
  refine zon ?_
  refine zw2 ?_
  refine zrt ?_
  rw [hres, vcells_eq]
  exact RQ_retS (rkvs_cons (rkv_ckS rfl rfl rfl) rfl) (x := rbox s (rblank s (rone (rval n s) s t).2)) hcl (by simp [AO.cells, AV.ltL, AV.lt]) (by simp [rks, AV.lt, AV.ltL]) ⟨rfl, rfl⟩
end Lg
set_option maxRecDepth 20000
set_option maxHeartbeats 4000000
namespace Lg
open Go Go.Proofs Go.RowKit
variable [GLay] 
theorem rpar_c (s : ByteArray) (hs : s.size ≤ 100000) (p : Nat) (σ : List AO) (hσ : σ[p]? = some (rbox s ⟨0, 0, 0, 0⟩)) : ACalls Tryz.prog 61 [.ptr p 0] σ (Ret (.agg (vcells (rpar s).1)) (σ.set p (rbox s (rpar s).2))) := value_r s hs (s.size + 2) ⟨0, 0, 0, 0⟩ p σ hσ ⟨Nat.zero_le _, fun _ => Nat.zero_le _, Int.le_refl _, Int.le_refl _⟩ (by dsimp only; omega)
theorem parse_c (s : ByteArray) (σ : List AO) (hs : s.size ≤ 100000) : ACalls Tryz.prog 30 [.str s] σ (Ret (.tup [.agg (vcells (rParse s).1), .int .i64 (rParse s).2.1, .int .i64 (rParse s).2.2]) σ) := by
 refine ACalls_bodyC Tryz.func30 rfl Tryz.ntmps30 (by rw [Tryz.results30]; exact (.ck Tryz.isAgg28 Tryz.sizeOf28 (.t (.t .nil)))) (Nat.le_of_ble_eq_true rfl) (fun hcl hal => ?_)
 refine zw3 ?_
 refine AWp_seq ?_
 refine zw3 ?_
 refine AWp_cond rfl (fun h1 => ?_) (fun h1 => ?_)
 ·(try rw [h1]); replace h1 := zcl h1
  refine zw4 ?_
  refine AWp_boxLeO 0 (bs' := [.int .i64 vz.kind, .bool vz.b, .bool vz.n.neg, .str vz.n.digits, .int .i64 vz.n.exp, .str vz.s, .sl false 8 (lcells vz.l), .sl false 9 (mcells vz.m)]) rfl ⟨AVle.refl _, AVle.refl _, AVle.refl _, AVle.refl _, AVle.refl _, AVle.refl _, nilL, nilM, trivial⟩ ?_
  refine zrt ?_
  have hE : rParse s = (vz, 5, 20000) := by unfold rParse; rw [if_pos (by omega)]
  rw [hE, vcells_eq]; exact RQ_ret (rkvs_cons (rkv_ck rfl rfl rfl) (rkvs_cons (rkv_t rfl) (rkvs_cons (rkv_t rfl) rfl))) hcl (by simp [rks, AV.lt, AV.ltL, ofConst1, ncells]) ⟨rfl, rfl⟩
 ·(try rw [h1]); replace h1 := zcl h1
  refine AWp_skip ?_
  refine zw4 ?_
  refine zu1 ?_
  refine zt rfl (zc rfl (callO 1 (rpar_c s hs (σ.length + 1) _ (by rw [get_ownT rfl]; rfl)))) ?_
  rw [vcells_eq (rpar s).1]
  refine zv2 ?_
  refine AWp_join (ι := Unit) (fun b => True) (fun b => ⟨[], [(0, .str s), (2, .ptr (σ.length + 0) 0), (5, .ptr (σ.length + 1) 0), (6, .ptr (σ.length + 2) 0)]⟩) (fun b => σ ++ [.box [.int .i64 0, .bool false, .bool false, .str e0, .int .i64 0, .str e0, .nils, .nils], rbox s (rparE s), .box [.int .i64 (rpar s).1.kind, .bool (rpar s).1.b, .bool (rpar s).1.n.neg, .str (rpar s).1.n.digits, .int .i64 (rpar s).1.n.exp, .str (rpar s).1.s, .sl false 8 (lcells (rpar s).1.l), .sl false 9 (mcells (rpar s).1.m)]]) ?_ (fun b hj => ?_)
  ·skip
   refine zu6 ?_
   refine zsp 21 rfl (fun h2 => ?_) fun h2 => ?_
   ·rw [h2]; replace h2 := zcl h2
    refine zv8 ?_
    refine AWp_cond rfl (fun h3 => ?_) (fun h3 => ?_)
    ·(try rw [h3]); replace h3 := zcl h3
     refine AWp_regL ?_
     refine zg5 ?_
     refine zt rfl (zc rfl (callO 1 (fail_r s (rpar s).2 (σ.length + 1) _ (by rw [get_ownT rfl]; rfl) ((rpar s).2.a : Int) 1))) ?_
     refine zon ?_
     refine ⟨(), trivial, ⟨rfl, rfl, rfl, rfl, rfl, trivial⟩, ?_⟩
     unfold rparE; first | (rw [if_pos ⟨by omega, by omega⟩]; rfl) | (rw [if_neg (by omega)]; rfl)
    ·(try rw [h3]); replace h3 := zcl h3
     refine AWp_skip ?_
     refine ⟨(), trivial, ⟨rfl, rfl, rfl, rfl, rfl, trivial⟩, ?_⟩
     unfold rparE; first | (rw [if_pos ⟨by omega, by omega⟩]; rfl) | (rw [if_neg (by omega)]; rfl)
   ·rw [h2]; replace h2 := zcl h2
    refine zv8 ?_
    refine AWp_condF rfl ?_
    refine AWp_skip ?_
    refine ⟨(), trivial, ⟨rfl, rfl, rfl, rfl, rfl, trivial⟩, ?_⟩
    unfold rparE; first | (rw [if_pos ⟨by omega, by omega⟩]; rfl) | (rw [if_neg (by omega)]; rfl)
  ·skip
   refine AWp_seq ?_
   refine zw5 ?_
   refine AWp_cond rfl (fun h4 => ?_) (fun h4 => ?_)
   ·(try rw [h4]); replace h4 := zcl h4
    refine AWp_seq ?_
    refine AWp_drawL #[0, 0, 2, 6, 14, 0, 32, 96, 224, 1, 543, 2047] Tryz.mixed (by decide +kernel) (by decide +kernel) ?_
    refine zd4 ?_
    refine zp1 ?_
    refine zd3 ?_
    refine zp1 ?_
    refine yEN rfl rfl rfl (zoa) (⟨.inr (op_load1 rfl Tryz.isAgg3 (ldv_own rfl rfl)), ⟨.inr (op_load1 rfl Tryz.isAgg3 (ldv_own rfl rfl)), trivial⟩⟩) (trivial) ?_
    refine zd2 ?_
    refine RP.nil rfl ?_
    refine AWp_boxLeO 0 (bs' := [.int .i64 vz.kind, .bool vz.b, .bool vz.n.neg, .str vz.n.digits, .int .i64 vz.n.exp, .str vz.s, .sl false 8 (lcells vz.l), .sl false 9 (mcells vz.m)]) rfl ⟨AVle.refl _, AVle.refl _, AVle.refl _, AVle.refl _, AVle.refl _, AVle.refl _, nilL, nilM, trivial⟩ ?_
    refine zrt ?_
    have hE : rParse s = (vz, (rparE s).bad, (rparE s).spot) := by unfold rParse; rw [if_neg (by omega), if_neg (by assumption)]
    rw [hE, vcells_eq]; exact RQ_ret (rkvs_cons (rkv_ck rfl rfl rfl) (rkvs_cons (rkv_t rfl) (rkvs_cons (rkv_t rfl) rfl))) hcl (by simp [rks, AV.lt, AV.ltL, ofConst1, ncells]) ⟨rfl, rfl⟩
   ·(try rw [h4]); replace h4 := zcl h4
    refine AWp_skip ?_
    refine zw4 ?_
    refine zrt ?_
    have hE : rParse s = ((rpar s).1, 0, 0) := by unfold rParse; rw [if_neg (by omega), if_pos (by assumption)]
    rw [hE, vcells_eq]; exact RQ_ret (rkvs_cons (rkv_ck rfl rfl rfl) (rkvs_cons (rkv_t rfl) (rkvs_cons (rkv_t rfl) rfl))) hcl (by simp [rks, AV.lt, AV.ltL, ofConst1, ncells]) ⟨rfl, rfl⟩

theorem value_c (s : ByteArray) (σ : List AO) : ACalls Tryz.prog 11 [.str s] σ (Ret (.tup [.agg (vcells (rValue s).1), .int .i64 (rValue s).2]) σ) := by
 refine ACalls_bodyC Tryz.func11 rfl Tryz.ntmps11 (by rw [Tryz.results11]; exact (.ck Tryz.isAgg28 Tryz.sizeOf28 (.t .nil))) (Nat.le_of_ble_eq_true rfl) (fun hcl hal => ?_)
 refine zw2 ?_
 refine AWp_seq ?_
 refine zw3 ?_
 refine AWp_cond rfl (fun h1 => ?_) (fun h1 => ?_)
 ·(try rw [h1]); replace h1 := zcl h1
  refine zw3 ?_
  refine AWp_boxLeO 0 (bs' := [.int .i64 vz.kind, .bool vz.b, .bool vz.n.neg, .str vz.n.digits, .int .i64 vz.n.exp, .str vz.s, .sl false 8 (lcells vz.l), .sl false 9 (mcells vz.m)]) rfl ⟨AVle.refl _, AVle.refl _, AVle.refl _, AVle.refl _, AVle.refl _, AVle.refl _, nilL, nilM, trivial⟩ ?_
  refine zrt ?_
  have hE : rValue s = (vz, 0) := by unfold rValue; rw [if_pos (by omega)]
  rw [hE, vcells_eq]; exact RQ_ret (rkvs_cons (rkv_ck rfl rfl rfl) (rkvs_cons (rkv_t rfl) rfl)) hcl (by simp [rks, AV.lt, AV.ltL, ofConst1, ncells]) ⟨rfl, rfl⟩
 ·(try rw [h1]); replace h1 := zcl h1
  refine AWp_skip ?_
  refine zu1 ?_
  refine zt rfl (zc rfl (parse_c s _ (by omega))) ?_
  rw [vcells_eq (rParse s).1]
  refine zv8 ?_
  refine AWp_seq ?_
  refine zw2 ?_
  refine AWp_cond rfl (fun h2 => ?_) (fun h2 => ?_)
  ·(try rw [h2]); replace h2 := zcl h2
   refine zw3 ?_
   refine AWp_boxLeO 0 (bs' := [.int .i64 vz.kind, .bool vz.b, .bool vz.n.neg, .str vz.n.digits, .int .i64 vz.n.exp, .str vz.s, .sl false 8 (lcells vz.l), .sl false 9 (mcells vz.m)]) rfl ⟨AVle.refl _, AVle.refl _, AVle.refl _, AVle.refl _, AVle.refl _, AVle.refl _, nilL, nilM, trivial⟩ ?_
   refine zrt ?_
   have hE : rValue s = (vz, 0) := by unfold rValue; rw [if_neg (by omega), if_neg (by assumption)]
   rw [hE, vcells_eq]; exact RQ_ret (rkvs_cons (rkv_ck rfl rfl rfl) (rkvs_cons (rkv_t rfl) rfl)) hcl (by simp [rks, AV.lt, AV.ltL, ofConst1, ncells]) ⟨rfl, rfl⟩
  ·(try rw [h2]); replace h2 := zcl h2
   refine AWp_skip ?_
   refine zw3 ?_
   refine zrt ?_
   have hE : rValue s = ((rParse s).1, 1) := by unfold rValue; rw [if_neg (by omega), if_pos (by assumption)]
   rw [hE, vcells_eq]; exact RQ_ret (rkvs_cons (rkv_ck rfl rfl rfl) (rkvs_cons (rkv_t rfl) rfl)) hcl (by simp [rks, AV.lt, AV.ltL, ofConst1, ncells]) ⟨rfl, rfl⟩
end Lg
set_option maxRecDepth 20000
set_option maxHeartbeats 4000000
namespace Lg
open Go Go.Proofs Go.RowKit
variable [GLay] 
theorem rsameQ_c (v : JV) (cs : List AV) (σ : List AO) (hc : vcells v = cs) (hjb : jb v) : ACalls Tryz.prog 17 [.agg cs, .agg cs] σ (Ret (.bool true) σ) := by
  subst hc
  have h := rsame_any (jsize v).toNat v v σ (by have := jsize_pos v; omega) hjb hjb
  rwa [pb_t rfl] at h
theorem op_eqGerr {P : Program} {σ : List AO} {e : Env} {o : Oper} {T T' : TypeId} {x : Operand} {ms : Array (String × TypeId)} {z : Bool} (ho : o.op = .binOp .eql T x (.const .nilIface) T') (hu : P.underlying T = some (.interface ms)) (hx : opO e x = some (gerr z)) : AOp P σ e o (.bool z) σ := by
  cases z with
  | true => exact op_eqINil ho hu hx
  | false => exact op_eqIN ho hu hx
theorem pN_ok (s : BL) : (pN s).length ≤ s.length + 1 ∧ ∀ x ∈ pN s, x.length ≤ s.length := by
  cases h : pE s with
  | none => exact pN_len h
  | some i =>
    by_cases h0 : s = []
    · subst h0; exact ⟨Nat.zero_le _, fun x hx => by simp [pN] at hx⟩
    · rw [pN_bad h0 h]; exact ⟨Nat.zero_le _, fun x hx => by cases hx⟩
end Lg
set_option maxRecDepth 20000
set_option maxHeartbeats 4000000
namespace Lg
open Go Go.Proofs Go.RowKit
variable [GLay] 
noncomputable def ptQ (s : ByteArray) : List BL × Int := open Classical in if (s.size ≤ 500 ∧ Utf s) ∧ pE s.data.toList = none then (pN s.data.toList, 1) else ([], 0)
theorem ptQ_y {s : ByteArray} (h1 : s.size ≤ 500) (h2 : Utf s) (h3 : ¬ pEi s.data.toList ≥ 0) : ptQ s = (pN s.data.toList, 1) := by
  have h4 : pE s.data.toList = none := by
    cases h : pE s.data.toList with
    | none => rfl
    | some i => rw [pEi_s h] at h3; omega
  unfold ptQ; rw [if_pos ⟨⟨h1, h2⟩, h4⟩]
theorem ptQ_n {s : ByteArray} (h : ¬ (s.size ≤ 500 ∧ Utf s)) : ptQ s = ([], 0) := by
  unfold ptQ; rw [if_neg (fun e => h e.1)]
theorem ptQ_e {s : ByteArray} (h : pEi s.data.toList ≥ 0) : ptQ s = ([], 0) := by
  unfold ptQ; rw [if_neg (fun e => by rw [pEi_n e.2] at h; omega)]
theorem ptrL_c (s : ByteArray) (σ : List AO) (hs : s.size ≤ 140737488355328) : ACalls Tryz.prog 12 [.str s] σ (Ret (.tup [.sl false 1 (srow (ptQ s).1), .int .i64 (ptQ s).2]) σ) := by
 refine ACalls_body Tryz.func12 rfl Tryz.ntmps12 (res2 Tryz.results12) (Nat.le_of_ble_eq_true rfl) (fun hcl hal => ?_)
 refine zw2 ?_
 refine zu1 ?_
 refine zt rfl (zc rfl (text_c s _ hs)) ?_
 refine zv1 ?_
 refine AWp_seq ?_
 refine zu4 ?_
 refine zsp 12 rfl (fun h1 => ?_) fun h1 => ?_
 ·rw [h1]; replace h1 := zcl h1
  refine zv3 ?_
  refine AWp_condT rfl ?_
  refine zw2 ?_
  refine AWp_slotLe 2 rfl (AVle.nils false 1) ?_ (by decide)
  refine zrt ?_
  rw [ptQ_n (fun e => by omega)]
  exact ResQ_20 rfl rfl hcl (by simp [rks, AV.lt, AV.ltL, AV.ltLL]) ⟨rfl, rfl⟩
 ·rw [h1]; replace h1 := zcl h1
  refine zv3 ?_
  refine AWp_cond rfl (fun h2 => ?_) (fun h2 => ?_)
  ·(try rw [h2]); replace h2 := zcl h2
   refine zw2 ?_
   refine AWp_slotLe 2 rfl (AVle.nils false 1) ?_ (by decide)
   refine zrt ?_
   rw [ptQ_n (fun e => by rw [pb_t e.2] at h2; cases h2)]
   exact ResQ_20 rfl rfl hcl (by simp [rks, AV.lt, AV.ltL, AV.ltLL]) ⟨rfl, rfl⟩
  ·(try rw [h2]); replace h2 := zcl h2
   refine AWp_skip ?_
   refine zu1 ?_
   refine zt rfl (zc rfl (rptrQ_c s _ (by omega))) ?_
   refine zv5 ?_
   refine AWp_seq ?_
   refine zw2 ?_
   refine AWp_cond rfl (fun h3 => ?_) (fun h3 => ?_)
   ·(try rw [h3]); replace h3 := zcl h3
    refine zw2 ?_
    refine AWp_slotLe 2 rfl (AVle.nils false 1) ?_ (by decide)
    refine zrt ?_
    rw [ptQ_e (by assumption)]
    exact ResQ_20 rfl rfl hcl (by simp [rks, AV.lt, AV.ltL, AV.ltLL]) ⟨rfl, rfl⟩
   ·(try rw [h3]); replace h3 := zcl h3
    refine AWp_skip ?_
    refine zw3 ?_
    refine zrt ?_
    rw [ptQ_y (s := s) (by omega) ((pb_iff _).1 h2) (by omega)]
    exact ResQ_20 rfl rfl hcl (by simp [rks, AV.lt, AV.ltL, AV.ltLL]) ⟨rfl, rfl⟩
end Lg
namespace Lg
open Go
section
variable {σ : List AO} {p q : Nat} {x y : AO}
end
section
variable [GLay]
variable {σ : List AO} {p q : Nat} {x y : AO}
end
section
variable [GLay]
structure SP (v : JV) (id deep frm nw lst : Int) (M : List (Int × AV)) (p q : Nat) (σ : List AO) : Prop where
  hp : σ[p]? = some (.box [.mapv q, .int .i64 frm, .int .i64 nw, .int .i64 lst])
  hq : σ[q]? = some (.map (imap M))
  key : ∀ a ∈ M, a.1 < id
  ml : ∀ k, ∀ a ∈ M, a.2.lt k
  len : (M.length : Int) + jsize v ≤ 20000
  d0 : 0 ≤ deep
  dd : deep + jdepth v ≤ 40
  i0 : 0 ≤ id
  ib : id + jsize v ≤ 1000000000
  f : frm ≤ id
  n0 : 0 ≤ nw
  nb : nw + jsize v ≤ 1000000
theorem SP.ne {v : JV} {id deep frm nw lst : Int} {M : List (Int × AV)} {p q : Nat} {σ : List AO} (h : SP v id deep frm nw lst M p q σ) : p ≠ q := fun e => by
  have h1 := h.hp; have h2 := h.hq
  rw [e, h2] at h1; cases h1
theorem SP.none {v : JV} {id deep frm nw lst : Int} {M : List (Int × AV)} {p q : Nat} {σ : List AO} (h : SP v id deep frm nw lst M p q σ) (K : List JV) : iget (M ++ seenL K (id + 1)) id = none :=
  iget_none fun a ha e => by
    rcases List.mem_append.1 ha with ha | ha
    · have := h.key a ha; omega
    · have := seenL_key _ _ a ha; omega
theorem SP.lt {v : JV} {id deep frm nw lst : Int} {M : List (Int × AV)} {p q : Nat} {σ : List AO} (h : SP v id deep frm nw lst M p q σ) (k : Nat) (K : List JV) : AV.ltL k (mflat (imap (M ++ seenL K (id + 1)))) :=
  imap_lt k _ fun a ha => by
    rcases List.mem_append.1 ha with ha | ha
    · exact h.ml k a ha
    · exact seenL_lt k _ _ a ha
end
end Lg
namespace Lg
open Go
section
variable [GLay] {P : Program} {σ l : List AO} {e : Env} {o : Oper} {f : FuncId} {args : List AV} {v : AV} {x y : AO}
end
end Lg
set_option maxRecDepth 20000
set_option maxHeartbeats 4000000
namespace Lg
open Go Go.Proofs Go.RowKit
variable [GLay] 
end Lg
set_option maxRecDepth 20000
set_option maxHeartbeats 4000000
namespace Lg
open Go Go.Proofs Go.RowKit
variable [GLay] 
def cerJ (k : Int) : AV := if k = 0 then .nili else .iface 69 (.int .i64 k)
theorem cerJ_b (b : Bool) : gerr b = cerJ (eC b) := by cases b <;> rfl
theorem eaddJ_c (x : JV) (xs : List AV) (hxs : vcells x = xs) (l : List BL) (hl : ∀ n ∈ l, n.length ≤ 1000000) (hll : l.length ≤ 2000000) (f : Bool) (v : JV) (cs : List AV) (σ : List AO) (hc : vcells v = cs) (hjb : jb v) (hmay : jst v) : ACalls Tryz.prog 13 [.agg cs, .sl f 1 (srow l), .agg xs] σ (Ret (.tup [.agg (vcells (jed 1 x l v).1), cerJ (jed 1 x l v).2]) σ) := by
  rcases List.eq_nil_or_concat l with rfl | ⟨l0, nm, rfl⟩
  · rw [jed_nil (by decide)]; exact eadd_0 x xs hxs f v cs σ hc hjb hmay
  · rw [List.concat_eq_append] at *
    rw [jed_add x l0 nm v hmay, ← cerJ_b]
    exact eadd_1 x xs hxs l0 nm (fun n hn => hl n (List.mem_append_left _ hn)) (by rw [List.length_append] at hll; omega) (hl nm (by simp)) f v cs σ hc hjb hmay
theorem eremJ_c (x : JV) (l : List BL) (hl : ∀ n ∈ l, n.length ≤ 1000000) (hll : l.length ≤ 2000000) (f : Bool) (v : JV) (cs : List AV) (σ : List AO) (hc : vcells v = cs) (hjb : jb v) (hmay : jst v) : ACalls Tryz.prog 14 [.agg cs, .sl f 1 (srow l)] σ (Ret (.tup [.agg (vcells (jed 2 x l v).1), cerJ (jed 2 x l v).2]) σ) := by
  rcases List.eq_nil_or_concat l with rfl | ⟨l0, nm, rfl⟩
  · exact erem_0 f v cs σ hc hjb hmay
  · rw [List.concat_eq_append] at *
    rw [jed_rem x l0 nm v hmay, ← cerJ_b]
    exact erem_1 l0 nm (fun n hn => hl n (List.mem_append_left _ hn)) (by rw [List.length_append] at hll; omega) (hl nm (by simp)) f v cs σ hc hjb hmay
theorem erepJ_c (x : JV) (xs : List AV) (hxs : vcells x = xs) (l : List BL) (hl : ∀ n ∈ l, n.length ≤ 1000000) (f : Bool) (v : JV) (cs : List AV) (σ : List AO) (hc : vcells v = cs) (hjb : jb v) (hmay : jst v) : ACalls Tryz.prog 15 [.agg cs, .sl f 1 (srow l), .agg xs] σ (Ret (.tup [.agg (vcells (jed 3 x l v).1), cerJ (jed 3 x l v).2]) σ) := by
  rw [jed_rep x l v hmay, ← cerJ_b]
  exact erep_c x xs hxs l hl f v cs σ hc hjb hmay
theorem ptQ_l (p : ByteArray) : ∀ n ∈ (ptQ p).1, n.length ≤ 1000000 := by
  have hpn := pN_ok p.data.toList
  have hsz : p.data.toList.length = p.size := Array.length_toList ..
  unfold ptQ
  split
  · rename_i h; intro n hn; have := hpn.2 n hn; have := h.1.1; omega
  · intro n hn; cases hn
theorem ptQ_n2 (p : ByteArray) : (ptQ p).1.length ≤ 2000000 := by
  have hpn := pN_ok p.data.toList
  have hsz : p.data.toList.length = p.size := Array.length_toList ..
  unfold ptQ
  split
  · rename_i h; have := hpn.1; have := h.1.1; show (pN p.data.toList).length ≤ _; omega
  · exact Nat.zero_le _
end Lg
namespace Lg
open Go Go.RowKit
variable [GLay]
def PastG (P : Program) (tb : Array Nat) (i : Nat) (e : Env) (o : Oper) (v : AV) : List (Nat × (Bool → List AO)) → Prop
  | [] => True
  | (j, σ) :: r => (befB tb j i = true ∨ ∀ b, AOp P (σ b) e o v (σ b)) ∧ PastG P tb i e o v r
def HeldG (tb : Array Nat) (i : Nat) (σ : Bool → List AO) : List (Nat × (List AO → Prop)) → Prop
  | [] => True
  | (k, p) :: r => (befB tb k i = true ∨ ∀ b, p (σ b)) ∧ HeldG tb i σ r
def ChainG (tb : Array Nat) (i : Nat) : List (Nat × (Bool → List AO)) → Prop
  | [] => True
  | (j, _) :: r => befB tb j i = true ∧ ChainG tb i r
inductive RT (P : Program) (N : Nat) (ops : Array Oper) (tb : Array Nat) (Q : Env → List AO → Prop) : Nat → Env → List AO → Prop
  | nil {i e σ} (hi : i = ops.size) (h : Q e σ) : RT P N ops tb Q i e σ
  | op {i e σ} (o : Oper) (v : AV) (σ' : List AO) (ho : ops[i]? = some o) (hg : GuardA ops N e o true) (hd : ∀ d, o.dst = some d → d < N) (h : AOp P σ e o v σ') (hall : ((List.range i).all fun j => befB tb j i) = true)
      (k : RT P N ops tb Q (i + 1) (e.put o.dst v) σ') : RT P N ops tb Q i e σ
def Twin (B : AO) (L : Nat) (σ : Bool → List AO) : Prop := (σ false).length = L ∧ σ true = σ false ++ [B]
inductive RG (P : Program) (N : Nat) (ops : Array Oper) (tb : Array Nat) (B : AO) (L : Nat) (Q : Env → List AO → Prop) : Nat → Env → (Bool → List AO) → List (Nat × (Bool → List AO)) → List (Nat × (List AO → Prop)) → Prop
  | pure {i e σ past held} (o : Oper) (v : AV) (ho : ops[i]? = some o) (hg : GuardA ops N e o true) (hd : ∀ d, o.dst = some d → d < N) (h : ∀ b, AOp P (σ b) e o v (σ b)) (hp : PastG P tb i e o v past)
      (k : RG P N ops tb B L Q (i + 1) (e.put o.dst v) σ past ((i, fun σ' => AOp P σ' e o v σ') :: held)) : RG P N ops tb B L Q i e σ past held
  | eff {i e σ past held} (o : Oper) (v : AV) (σ' : Bool → List AO) (ho : ops[i]? = some o) (hg : GuardA ops N e o true) (hd : ∀ d, o.dst = some d → d < N) (h : ∀ b, AOp P (σ b) e o v (σ' b)) (ht : Twin B L σ') (hh : HeldG tb i σ' held) (hc : ChainG tb i past)
      (k : RG P N ops tb B L Q (i + 1) (e.put o.dst v) σ' ((i, σ) :: past) held) : RG P N ops tb B L Q i e σ past held
  | flt {i e σ past held} (o : Oper) (ho : ops[i]? = some o) (hg : GuardA ops N e o true) (hd : ∀ d, o.dst = some d → d < N) (h : ∀ τ : List AO, τ.length = L → AOp P τ e o (.ptr L 0) (τ ++ [B]))
      (k : RT P N ops tb Q (i + 1) (e.put o.dst (.ptr L 0)) (σ true)) : RG P N ops tb B L Q i e σ past held
structure TrG (P : Program) (N : Nat) (ops : Array Oper) (tb : Array Nat) (B : AO) (L : Nat) (Q : Env → List AO → Prop) (i0 f : Nat) (E : Nat → Env) (H : Bool → Nat → List AO) (val : Nat → AV) (kd : Nat → Kd) : Prop where
  le : i0 ≤ f
  fl : f < ops.size
  twin : ∀ i, i0 ≤ i → i ≤ f → Twin B L fun b => H b i
  pre : ∀ i, i0 ≤ i → i < f → ∃ o, ops[i]? = some o ∧ (∀ d, o.dst = some d → d < N) ∧ E (i + 1) = (E i).put o.dst (val i) ∧ GuardA ops N (E i) o true ∧
    ((kd i = .pure ∧ (∀ b, AOp P (H b i) (E i) o (val i) (H b i) ∧ H b (i + 1) = H b i) ∧
      (∀ j, i0 ≤ j → j < i → kd j = .eff → befB tb j i = true ∨ ∀ b, AOp P (H b j) (E i) o (val i) (H b j)) ∧
      (∀ j, i < j → j < f → kd j = .eff → befB tb i j = true ∨ ∀ b, AOp P (H b (j + 1)) (E i) o (val i) (H b (j + 1)))) ∨
    (kd i = .eff ∧ (∀ b, AOp P (H b i) (E i) o (val i) (H b (i + 1))) ∧ (∀ j, i0 ≤ j → j < i → kd j = .eff → befB tb j i = true)))
  flt : ∃ o, ops[f]? = some o ∧ (∀ d, o.dst = some d → d < N) ∧ E (f + 1) = (E f).put o.dst (val f) ∧ GuardA ops N (E f) o true ∧ kd f = .skip ∧ (∀ b, H b (f + 1) = H b f) ∧
    ∀ τ : List AO, τ.length = L → AOp P τ (E f) o (val f) (τ ++ [B])
  tail : ∀ i, f < i → i < ops.size → ∃ o, ops[i]? = some o ∧ (∀ d, o.dst = some d → d < N) ∧ E (i + 1) = (E i).put o.dst (val i) ∧ GuardA ops N (E i) o true ∧ kd i = .eff ∧
    AOp P (H true i) (E i) o (val i) (H true (i + 1)) ∧ ∀ j, j < i → befB tb j i = true
  fin : Q (E ops.size) (H true ops.size)
section rp
variable {P : Program} {N : Nat} {ops : Array Oper} {tb : Array Nat} {Q : Env → List AO → Prop} {B : AO} {L : Nat}
theorem PastG.mem {i : Nat} {e : Env} {o : Oper} {v : AV} : ∀ {past : List (Nat × (Bool → List AO))}, PastG P tb i e o v past → ∀ q ∈ past, befB tb q.1 i = true ∨ ∀ b, AOp P (q.2 b) e o v (q.2 b)
  | [], _, q, h => by simp at h
  | (j, σ) :: r, ⟨h1, h2⟩, q, h => by
    rcases List.mem_cons.1 h with rfl | h
    · exact h1
    · exact PastG.mem h2 q h
theorem HeldG.mem {i : Nat} {σ : Bool → List AO} : ∀ {held : List (Nat × (List AO → Prop))}, HeldG tb i σ held → ∀ q ∈ held, befB tb q.1 i = true ∨ ∀ b, q.2 (σ b)
  | [], _, q, h => by simp at h
  | (j, p) :: r, ⟨h1, h2⟩, q, h => by
    rcases List.mem_cons.1 h with rfl | h
    · exact h1
    · exact HeldG.mem h2 q h
theorem ChainG.mem {i : Nat} : ∀ {past : List (Nat × (Bool → List AO))}, ChainG tb i past → ∀ q ∈ past, befB tb q.1 i = true
  | [], _, q, h => by simp at h
  | (j, σ) :: r, ⟨h1, h2⟩, q, h => by
    rcases List.mem_cons.1 h with rfl | h
    · exact h1
    · exact ChainG.mem h2 q h
theorem RT.trace {i : Nat} {e : Env} {σ : List AO} (h : RT P N ops tb Q i e σ) (hi : i ≤ ops.size) :
    ∃ (E : Nat → Env) (H : Nat → List AO) (val : Nat → AV), E i = e ∧ H i = σ ∧ (∀ j, i ≤ j → j < ops.size → ∃ o, ops[j]? = some o ∧ (∀ d, o.dst = some d → d < N) ∧ E (j + 1) = (E j).put o.dst (val j) ∧ GuardA ops N (E j) o true ∧
      AOp P (H j) (E j) o (val j) (H (j + 1)) ∧ ∀ k, k < j → befB tb k j = true) ∧ Q (E ops.size) (H ops.size) := by
  induction h with
  | nil hi' h =>
    rename_i i e σ
    exact ⟨fun _ => e, fun _ => σ, fun _ => .any, rfl, rfl, fun j h1 h2 => by omega, h⟩
  | op o v σ' ho hg hd h hall k ih =>
    rename_i i e σ
    have hlt : i < ops.size := (Array.getElem?_eq_some_iff.1 ho).1
    obtain ⟨E, H, val, hE, hH, hs, hQ⟩ := ih (by omega)
    refine ⟨fun j => if j = i then e else E j, fun j => if j = i then σ else H j, fun j => if j = i then v else val j, if_pos rfl, if_pos rfl, fun j h1 h2 => ?_, ?_⟩
    · by_cases hji : j = i
      · subst hji
        refine ⟨o, ho, hd, ?_, by simpa using hg, ?_, fun k hk => List.all_eq_true.1 hall k (List.mem_range.2 hk)⟩
        · simp [hE]
        · simp only [if_true, if_neg (show j + 1 ≠ j by omega), hH]; exact h
      · simp only [if_neg hji, if_neg (show j + 1 ≠ i by omega)]; exact hs j (by omega) h2
    · simp only [if_neg (show ops.size ≠ i by omega)]; exact hQ
theorem RG.trace {i : Nat} {e : Env} {σ : Bool → List AO} {past : List (Nat × (Bool → List AO))} {held : List (Nat × (List AO → Prop))} (h : RG P N ops tb B L Q i e σ past held) (htw : Twin B L σ) :
    ∃ f E H val kd, E i = e ∧ (∀ b, H b i = σ b) ∧ TrG P N ops tb B L Q i f E H val kd ∧
      (∀ j, i ≤ j → j < f → kd j = .pure → ∀ q ∈ past, ∃ o, ops[j]? = some o ∧ (befB tb q.1 j = true ∨ ∀ b, AOp P (q.2 b) (E j) o (val j) (q.2 b))) ∧
      (∀ j, i ≤ j → j < f → kd j = .eff → (∀ q ∈ held, befB tb q.1 j = true ∨ ∀ b, q.2 (H b (j + 1))) ∧ ∀ q ∈ past, befB tb q.1 j = true) := by
  induction h with
  | flt o ho hg hd h k =>
    rename_i i e σ past held
    have hlt : i < ops.size := (Array.getElem?_eq_some_iff.1 ho).1
    obtain ⟨E, H, val, hE, hH, hs, hQ⟩ := k.trace (by omega)
    refine ⟨i, fun j => if j = i then e else E j, fun b j => if j ≤ i + 1 then σ b else H j, fun j => if j = i then .ptr L 0 else val j, fun j => if j = i then .skip else .eff, if_pos rfl, fun b => if_pos (by omega), ⟨Nat.le_refl _, hlt, fun j h1 h2 => ?_, fun j h1 h2 => by omega, ⟨o, ho, hd, ?_, by simpa using hg, if_pos rfl, fun b => ?_, fun τ hτ => ?_⟩, fun j h1 h2 => ?_, ?_⟩, fun j h1 h2 => by omega, fun j h1 h2 => by omega⟩
    · simp only [if_pos (show j ≤ i + 1 by omega)]; exact htw
    · simp [hE]
    · simp
    · simp only [if_true]; exact h τ hτ
    · obtain ⟨o', a1, a2, a3, a4, a5, a6⟩ := hs j (by omega) h2
      refine ⟨o', a1, a2, ?_, ?_, ?_, ?_, a6⟩
      · simp only [if_neg (show j ≠ i by omega), if_neg (show j + 1 ≠ i by omega)]; exact a3
      · simp only [if_neg (show j ≠ i by omega)]; exact a4
      · simp only [if_neg (show j ≠ i by omega)]
      · simp only [if_neg (show j ≠ i by omega), if_neg (show ¬ j + 1 ≤ i + 1 by omega)]
        by_cases hj : j ≤ i + 1
        · have : j = i + 1 := by omega
          subst this
          simp only [Nat.le_refl, if_true]; rw [← hH]; exact a5
        · simp only [if_neg hj]; exact a5
    · simp only [if_neg (show ops.size ≠ i by omega)]
      by_cases hj : ops.size ≤ i + 1
      · simp only [if_pos hj]; have : ops.size = i + 1 := by omega
        rw [this] at hQ ⊢; rw [← hH]; exact hQ
      · simp only [if_neg hj]; exact hQ
  | pure o v ho hg hd h hp k ih =>
    rename_i i e σ past held
    obtain ⟨f, E, H, val, kd, hE, hH, ht, h1, h2⟩ := ih htw
    have hif := ht.le
    refine ⟨f, fun j => if j = i then e else E j, fun b j => if j = i then σ b else H b j, fun j => if j = i then v else val j, fun j => if j = i then .pure else kd j, if_pos rfl, fun b => if_pos rfl, ⟨by omega, ht.fl, fun j h3 h4 => ?_, fun j hj1 hj2 => ?_, ?_, fun j h3 h4 => ?_, ?_⟩, fun j hj1 hj2 hk q hq => ?_, fun j hj1 hj2 hk => ?_⟩
    · by_cases hji : j = i
      · simp only [if_pos hji]; exact htw
      · simp only [if_neg hji]; exact ht.twin j (by omega) h4
    · by_cases hji : j = i
      · subst hji
        refine ⟨o, ho, hd, by simp [hE], by simpa using hg, .inl ⟨by simp, fun b => ⟨by simpa using h b, by simp [hH]⟩, fun j' h4 h5 => by omega, fun j' h4 h5 hk => ?_⟩⟩
        simp only [if_neg (show j' ≠ j by omega), if_neg (show j' + 1 ≠ j by omega)] at hk ⊢
        simp only [if_true]
        exact (h2 j' (by omega) h5 hk).1 (j, fun σ' => AOp P σ' e o v σ') (by simp)
      · obtain ⟨o', ho', hd', hE', hg', hc⟩ := ht.pre j (by omega) hj2
        simp only [if_neg hji, if_neg (show j + 1 ≠ i by omega)]
        refine ⟨o', ho', hd', hE', hg', ?_⟩
        rcases hc with ⟨a0, a1, a4, a5⟩ | ⟨a0, a1, a3⟩
        · refine .inl ⟨a0, a1, fun j' h4 h5 hk' => ?_, fun j' h4 h5 hk' => ?_⟩
          · by_cases hj' : j' = i
            · subst hj'; simp at hk'
            · simp only [if_neg hj'] at hk' ⊢; exact a4 j' (by omega) h5 hk'
          · simp only [if_neg (show j' ≠ i by omega), if_neg (show j' + 1 ≠ i by omega)] at hk' ⊢; exact a5 j' h4 h5 hk'
        · refine .inr ⟨a0, a1, fun j' h4 h5 hk' => ?_⟩
          by_cases hj' : j' = i
          · subst hj'; simp at hk'
          · simp only [if_neg hj'] at hk'; exact a3 j' (by omega) h5 hk'
    · have := ht.flt; simpa only [if_neg (show f ≠ i by omega), if_neg (show f + 1 ≠ i by omega)] using this
    · have := ht.tail j h3 h4; simpa only [if_neg (show j ≠ i by omega), if_neg (show j + 1 ≠ i by omega)] using this
    · have := ht.fin; have h9 := ht.fl; simpa only [if_neg (show ops.size ≠ i by omega)] using this
    · by_cases hji : j = i
      · subst hji; exact ⟨o, ho, by simp only [if_true]; exact hp.mem q hq⟩
      · simp only [if_neg hji] at hk ⊢; exact h1 j (by omega) hj2 hk q hq
    · by_cases hji : j = i
      · subst hji; simp at hk
      · simp only [if_neg hji, if_neg (show j + 1 ≠ i by omega)] at hk ⊢
        obtain ⟨b1, b2⟩ := h2 j (by omega) hj2 hk
        exact ⟨fun q hq => b1 q (List.mem_cons_of_mem _ hq), b2⟩
  | eff o v σ' ho hg hd h htw' hh hc k ih =>
    rename_i i e σ past held
    obtain ⟨f, E, H, val, kd, hE, hH, ht, h1, h2⟩ := ih htw'
    have hif := ht.le
    refine ⟨f, fun j => if j = i then e else E j, fun b j => if j = i then σ b else H b j, fun j => if j = i then v else val j, fun j => if j = i then .eff else kd j, if_pos rfl, fun b => if_pos rfl, ⟨by omega, ht.fl, fun j h3 h4 => ?_, fun j hj1 hj2 => ?_, ?_, fun j h3 h4 => ?_, ?_⟩, fun j hj1 hj2 hk q hq => ?_, fun j hj1 hj2 hk => ?_⟩
    · by_cases hji : j = i
      · simp only [if_pos hji]; exact htw
      · simp only [if_neg hji]; exact ht.twin j (by omega) h4
    · by_cases hji : j = i
      · subst hji
        refine ⟨o, ho, hd, by simp [hE], by simpa using hg, .inr ⟨by simp, fun b => ?_, fun j' h4 h5 => by omega⟩⟩
        simp only [if_true, if_neg (show j + 1 ≠ j by omega), hH]; exact h b
      · obtain ⟨o', ho', hd', hE', hg', hc'⟩ := ht.pre j (by omega) hj2
        simp only [if_neg hji, if_neg (show j + 1 ≠ i by omega)]
        refine ⟨o', ho', hd', hE', hg', ?_⟩
        rcases hc' with ⟨a0, a1, a4, a5⟩ | ⟨a0, a1, a3⟩
        · refine .inl ⟨a0, a1, fun j' h4 h5 hk' => ?_, fun j' h4 h5 hk' => ?_⟩
          · by_cases hj' : j' = i
            · subst hj'
              obtain ⟨o2, ho2, hx⟩ := h1 j (by omega) hj2 a0 (j', σ) (by simp)
              rw [ho'] at ho2; cases ho2
              simp only [if_true]; exact hx
            · simp only [if_neg hj'] at hk' ⊢; exact a4 j' (by omega) h5 hk'
          · simp only [if_neg (show j' ≠ i by omega), if_neg (show j' + 1 ≠ i by omega)] at hk' ⊢; exact a5 j' h4 h5 hk'
        · refine .inr ⟨a0, a1, fun j' h4 h5 hk' => ?_⟩
          by_cases hj' : j' = i
          · subst hj'; exact (h2 j (by omega) hj2 a0).2 (j', σ) (by simp)
          · simp only [if_neg hj'] at hk'; exact a3 j' (by omega) h5 hk'
    · have := ht.flt; simpa only [if_neg (show f ≠ i by omega), if_neg (show f + 1 ≠ i by omega)] using this
    · have := ht.tail j h3 h4; simpa only [if_neg (show j ≠ i by omega), if_neg (show j + 1 ≠ i by omega)] using this
    · have := ht.fin; have h9 := ht.fl; simpa only [if_neg (show ops.size ≠ i by omega)] using this
    · by_cases hji : j = i
      · subst hji; simp at hk
      · simp only [if_neg hji] at hk ⊢; exact h1 j (by omega) hj2 hk q (List.mem_cons_of_mem _ hq)
    · by_cases hji : j = i
      · subst hji
        exact ⟨fun q hq => by simp only [if_neg (show j + 1 ≠ j by omega), hH]; exact hh.mem q hq, hc.mem⟩
      · simp only [if_neg hji, if_neg (show j + 1 ≠ i by omega)] at hk ⊢
        obtain ⟨b1, b2⟩ := h2 j (by omega) hj2 hk
        exact ⟨b1, fun q hq => b2 q (List.mem_cons_of_mem _ hq)⟩
end rp
end Lg
namespace Lg
open Go Go.RowKit
variable [GLay]
section sound
variable {P : Program} {N : Nat} {ops : Array Oper} {tb : Array Nat} {Q : Env → List AO → Prop} {B : AO} {L : Nat}
structure InvG (ops : Array Oper) (N f : Nat) (E : Nat → Env) (H : Bool → Nat → List AO) (val : Nat → AV) (kd : Nat → Kd) (s0 : CS) (listed : Array Bool) (a : Act) (w : World) : Prop where
  size : listed.size = ops.size
  dn : ∀ j o, ops[j]? = some o → listed.getD j false = true → ∀ ed ∈ o.after.toList, Region.binds .any ed = true → listed.getD ed.on false = true
  st : ∃ s q, s.w = w ∧ Good s ∧ Ext s0 s ∧ q ≤ ops.size ∧ (∀ j, j < q → kd j = .eff → listed.getD j false = true) ∧ (q < ops.size → kd q = .eff ∧ listed.getD q false = false) ∧ s.σ = H (listed.getD f false) q ∧
    a.tmps.size = N ∧ DefOK s (E 0).D a.defers ∧ ∀ t, V s (preA ops (E 0) val (fun j => listed.getD j false) ops.size t) (a.eval (.tmp t))
theorem InvG.way {f : Nat} {E : Nat → Env} {H : Bool → Nat → List AO} {val : Nat → AV} {kd : Nat → Kd} {s0 : CS} {listed : Array Bool} {a : Act} {w : World} (c : Chk ops tb) (h : InvG ops N f E H val kd s0 listed a w) :
    ∀ (j : Nat) (o : Oper), ops[j]? = some o → (∀ ed ∈ o.after.toList, Region.binds .any ed = true → listed.getD ed.on false = true) → ∀ i, i < ops.size → befB tb i j = true → listed.getD i false = true := by
  intro j
  induction j using Nat.strongRecOn with
  | _ j ih =>
    intro o ho hdeps i hi hb
    obtain ⟨ed, hed, hbd, h1⟩ := c.way i j o ho hi hb
    have hon := hdeps ed hed hbd
    rcases h1 with h1 | h1
    · rw [← h1]; exact hon
    · have hlt := (c.edge j o ho ed hed hbd).1
      have hjn : ed.on < ops.size := by have := (Array.getElem?_eq_some_iff.1 ho).1; omega
      have ho' := Array.getElem?_eq_getElem hjn
      exact ih ed.on hlt _ ho' (h.dn ed.on _ ho' hon) i hi h1
theorem TrG.step {i0 f : Nat} {E : Nat → Env} {H : Bool → Nat → List AO} {val : Nat → AV} {kd : Nat → Kd} (ht : TrG P N ops tb B L Q i0 f E H val kd) : ∀ i, i0 ≤ i → i < ops.size → ∃ o, ops[i]? = some o ∧ (∀ d, o.dst = some d → d < N) ∧ E (i + 1) = (E i).put o.dst (val i) ∧ GuardA ops N (E i) o true := fun i h0 hi => by
  rcases Nat.lt_trichotomy i f with h | h | h
  · obtain ⟨o, a1, a2, a3, a4, _⟩ := ht.pre i h0 h; exact ⟨o, a1, a2, a3, a4⟩
  · subst h; obtain ⟨o, a1, a2, a3, a4, _⟩ := ht.flt; exact ⟨o, a1, a2, a3, a4⟩
  · obtain ⟨o, a1, a2, a3, a4, _⟩ := ht.tail i h hi; exact ⟨o, a1, a2, a3, a4⟩
theorem TrG.hconst {i0 f : Nat} {E : Nat → Env} {H : Bool → Nat → List AO} {val : Nat → AV} {kd : Nat → Kd} (ht : TrG P N ops tb B L Q i0 f E H val kd) (z : Bool) : ∀ (b a : Nat), i0 ≤ a → a ≤ b → b ≤ ops.size → (∀ j, a ≤ j → j < b → kd j ≠ .eff) → H z a = H z b
  | 0, a, _, h, _, _ => by have : a = 0 := by omega
                           subst this; rfl
  | b + 1, a, h0, h, hb, hk => by
    by_cases e : a = b + 1
    · subst e; rfl
    · have ih := ht.hconst z b a h0 (by omega) (by omega) (fun j h1 h2 => hk j h1 (by omega))
      have hkb := hk b (by omega) (by omega)
      have : H z (b + 1) = H z b := by
        rcases Nat.lt_trichotomy b f with h1 | h1 | h1
        · obtain ⟨o, _, _, _, _, hc⟩ := ht.pre b (by omega) h1
          rcases hc with ⟨_, h2, _⟩ | ⟨h2, _⟩
          · exact (h2 z).2
          · exact absurd h2 hkb
        · subst h1
          obtain ⟨o, _, _, _, _, _, h2, _⟩ := ht.flt
          exact h2 z
        · obtain ⟨o, _, _, _, _, h2, _⟩ := ht.tail b h1 (by omega)
          exact absurd h2 hkb
      rw [ih, this]
end sound
end Lg
namespace Lg
open Go Go.RowKit
variable [GLay]
section
variable {P : Program} {N : Nat} {σ l : List AO} {e : Env} {o : Oper} {Q : QA}
end
section
variable {P : Program} {N : Nat} {ops : Array Oper} {tb : Array Nat} {B : AO} {L : Nat} {QR : Env → List AO → Prop} {i : Nat} {D : List (FuncId × List AV)} {el : List (Nat × AV)} {σ : Bool → List AO} {past : List (Nat × (Bool → List AO))} {held : List (Nat × (List AO → Prop))} {o : Oper} {v : AV} {d : Nat}
end
end Lg
namespace Lg
open Go Go.RowKit
variable [GLay]
section
variable {P : Program} {N : Nat} {e : Env} {σ : List AO} {Q : QA}
end
end Lg
set_option maxRecDepth 20000
set_option maxHeartbeats 4000000
namespace Lg
open Go Go.Proofs Go.RowKit
variable [GLay] 
theorem rsameP_c (x y : JV) (cs ds : List AV) (σ : List AO) (hc : vcells x = cs) (hd : vcells y = ds) (hx : jb x) (hy : jb y) : ACalls Tryz.prog 17 [.agg cs, .agg ds] σ (Ret (.bool (pb (x = y))) σ) := by
  subst hc; subst hd
  exact rsame_any (jsize x).toNat x y σ (by have := jsize_pos x; omega) hx hy
theorem psameP_c (x y : JV) (cs ds : List AV) (σ : List AO) (hc : vcells x = cs) (hd : vcells y = ds) (hx : jb x) (hy : jb y) : ACalls Tryz.prog 114 [.agg cs, .agg ds] σ (Ret (.bool (pb (x = y))) σ) := by
  subst hc; subst hd
  exact same_any (jsize x).toNat x y σ (by have := jsize_pos x; omega) hx hy
end Lg
set_option maxRecDepth 20000
set_option maxHeartbeats 4000000
namespace Lg
open Go Go.Proofs Go.RowKit
variable [GLay] 
theorem ritoaP (m : Nat) : ∀ (n : Int) (σ : List AO), 0 ≤ n → n < m → n ≤ 9223372036854775807 → ACalls Tryz.prog 51 [.int .i64 n] σ (Ret (.str (itoaB n)) σ) := by
 induction m with
 | zero => intro n σ h1 h2 h3; omega
 | succ m ih =>
 intro n σ hn1 hn2 hn3
 refine ACalls_body Tryz.func51 rfl Tryz.ntmps51 (res1 Tryz.results51) (Nat.le_of_ble_eq_true rfl) (fun hcl hal => ?_)
 have h1s : ∀ x, (ByteArray.mk #[x]).size = 1 := fun x => rfl
 have hsz := itoa_size (n := n / 10) (by omega) (by omega)
 have hsz2 := itoa_size (n := -n) (by omega) (by omega)
 have hs3 := h1s (u8b (48 + n % 10))
 have hs4 := h1s 45
 refine zw1 ?_
 refine AWp_seq ?_
 refine zw2 ?_
 refine AWp_cond rfl (fun h1 => ?_) (fun h1 => ?_)
 ·(try rw [h1]); replace h1 := zcl h1
  exfalso; omega
 ·(try rw [h1]); replace h1 := zcl h1
  refine AWp_skip ?_
  refine AWp_seq ?_
  refine zw2 ?_
  refine AWp_cond rfl (fun h2 => ?_) (fun h2 => ?_)
  ·(try rw [h2]); replace h2 := zcl h2
   refine zu3 ?_
   refine zt rfl (op_buildSlice [[_]] rfl Tryz.underlying102 Tryz.sizeOf5 Tryz.zeroValue5 rfl (by decide) (by decide) rfl rfl rfl rfl rfl) ?_
   refine zt rfl (op_bytesStr (b := _) (m := 1) rfl Tryz.underlying102 Tryz.underlying5 Tryz.underlying9 (bs1 ⟨by omega, by omega⟩) rfl rfl) ?_
   refine zv1 ?_
   refine zrt ?_
   rw [itoa_small (by omega) h2]
   exact ResQ_10 rfl hcl trivial (Ret_of rfl)
  ·(try rw [h2]); replace h2 := zcl h2
   refine AWp_skip ?_
   refine AWp_seq ?_
   refine AWp_drawL #[0, 1, 3, 0, 8, 24, 56, 120, 248, 511, 1023] Tryz.mixed (by decide +kernel) (by decide +kernel) ?_
   refine zd1 ?_
   refine yA rfl rfl (fun _ => op_quo64 rfl rfl rfl (by omega) (by omega) (by omega)) ?_
   refine yP rfl rfl (zc rfl (ih (n / 10) _ (by omega) (by omega) (by omega))) (trivial) ?_
   refine zd1 ?_
   refine yA rfl rfl (fun _ => op_rem64 rfl rfl rfl (by omega) (by omega)) ?_
   refine zd2 ?_
   refine yA rfl rfl (fun _ => op_buildSlice [[_]] rfl Tryz.underlying102 Tryz.sizeOf5 Tryz.zeroValue5 rfl (by decide) (by decide) rfl rfl rfl rfl rfl) ?_
   refine yA rfl rfl (fun _ => op_bytesStr (b := _) (m := 1) rfl Tryz.underlying102 Tryz.underlying5 Tryz.underlying9 (bs1 ⟨by omega, by omega⟩) rfl rfl) ?_
   refine zd2 ?_
   refine RP.nil rfl ?_
   refine zrt ?_
   rw [itoa_big (by omega)]
   exact ResQ_10 rfl hcl trivial (Ret_of rfl)

theorem ritoa_c (n : Int) (σ : List AO) (hn3 : -9223372036854775807 ≤ n) (hn4 : n ≤ 9223372036854775807) : ACalls Tryz.prog 51 [.int .i64 n] σ (Ret (.str (itoaB n)) σ) := by
 refine ACalls_body Tryz.func51 rfl Tryz.ntmps51 (res1 Tryz.results51) (Nat.le_of_ble_eq_true rfl) (fun hcl hal => ?_)
 have h1s : ∀ x, (ByteArray.mk #[x]).size = 1 := fun x => rfl
 have hsz := itoa_size (n := n / 10) (by omega) (by omega)
 have hsz2 := itoa_size (n := -n) (by omega) (by omega)
 have hs3 := h1s (u8b (48 + n % 10))
 have hs4 := h1s 45
 refine zw1 ?_
 refine AWp_seq ?_
 refine zw2 ?_
 refine AWp_cond rfl (fun h1 => ?_) (fun h1 => ?_)
 ·(try rw [h1]); replace h1 := zcl h1
  refine zu1 ?_
  refine zt rfl (op_neg64 rfl rfl (by omega) (by omega)) ?_
  refine zt rfl (zc rfl (ritoaP ((-n).toNat + 1) (-n) _ (by omega) (by omega) (by omega))) ?_
  refine zv2 ?_
  refine zrt ?_
  rw [itoa_neg h1]
  exact ResQ_10 rfl hcl trivial (Ret_of rfl)
 ·(try rw [h1]); replace h1 := zcl h1
  refine AWp_skip ?_
  refine AWp_seq ?_
  refine zw2 ?_
  refine AWp_cond rfl (fun h2 => ?_) (fun h2 => ?_)
  ·(try rw [h2]); replace h2 := zcl h2
   refine zu3 ?_
   refine zt rfl (op_buildSlice [[_]] rfl Tryz.underlying102 Tryz.sizeOf5 Tryz.zeroValue5 rfl (by decide) (by decide) rfl rfl rfl rfl rfl) ?_
   refine zt rfl (op_bytesStr (b := _) (m := 1) rfl Tryz.underlying102 Tryz.underlying5 Tryz.underlying9 (bs1 ⟨by omega, by omega⟩) rfl rfl) ?_
   refine zv1 ?_
   refine zrt ?_
   rw [itoa_small (by omega) h2]
   exact ResQ_10 rfl hcl trivial (Ret_of rfl)
  ·(try rw [h2]); replace h2 := zcl h2
   refine AWp_skip ?_
   refine AWp_seq ?_
   refine AWp_drawL #[0, 1, 3, 0, 8, 24, 56, 120, 248, 511, 1023] Tryz.mixed (by decide +kernel) (by decide +kernel) ?_
   refine zd1 ?_
   refine yA rfl rfl (fun _ => op_quo64 rfl rfl rfl (by omega) (by omega) (by omega)) ?_
   refine yP rfl rfl (zc rfl (ritoaP ((n / 10).toNat + 1) (n / 10) _ (by omega) (by omega) (by omega))) (trivial) ?_
   refine zd1 ?_
   refine yA rfl rfl (fun _ => op_rem64 rfl rfl rfl (by omega) (by omega)) ?_
   refine zd2 ?_
   refine yA rfl rfl (fun _ => op_buildSlice [[_]] rfl Tryz.underlying102 Tryz.sizeOf5 Tryz.zeroValue5 rfl (by decide) (by decide) rfl rfl rfl rfl rfl) ?_
   refine yA rfl rfl (fun _ => op_bytesStr (b := _) (m := 1) rfl Tryz.underlying102 Tryz.underlying5 Tryz.underlying9 (bs1 ⟨by omega, by omega⟩) rfl rfl) ?_
   refine zd2 ?_
   refine RP.nil rfl ?_
   refine zrt ?_
   rw [itoa_big (by omega)]
   exact ResQ_10 rfl hcl trivial (Ret_of rfl)

theorem rshow_c (n : JNum) (σ : List AO) (hb : n.digits.size ≤ 1000000 ∧ -1000000 ≤ n.exp ∧ n.exp ≤ 1000000) : ACalls Tryz.prog 49 [.agg (ncells n)] σ (Ret (.str (jshow n)) σ) := by
 refine ACalls_body Tryz.func49 rfl Tryz.ntmps49 (res1 Tryz.results49) (Nat.le_of_ble_eq_true rfl) (fun hcl hal => ?_)
 have h1s : (ByteArray.mk #[45]).size = 1 := rfl
 have h2s : (ByteArray.mk #[101]).size = 1 := rfl
 have hsz := itoa_size (n := n.exp) (by omega) (by omega)
 have hsa := ByteArray.size_append (a := (⟨#[45]⟩ : ByteArray)) (b := n.digits)
 have hsb := ByteArray.size_append (a := n.digits) (b := (⟨#[101]⟩ : ByteArray))
 have hsc := ByteArray.size_append (a := (⟨#[45]⟩ : ByteArray) ++ n.digits) (b := (⟨#[101]⟩ : ByteArray))
 refine zw2 ?_
 refine AWp_seq ?_
 refine zw3 ?_
 refine AWp_cond rfl (fun h1 => ?_) (fun h1 => ?_)
 ·(try rw [h1]); replace h1 := zcl h1
  refine zw1 ?_
  refine zrt ?_
  refine ResQ_1 rfl hcl trivial (Ret_of ?_)
  unfold jshow; first | (rw [if_pos (by assumption)]; done) | (rw [if_neg (by assumption), if_pos (by assumption), if_pos (by assumption)]; done) | (rw [if_neg (by assumption), if_pos (by assumption), if_neg (by simp [*])]; done) | (rw [if_neg (by assumption), if_neg (by assumption), if_pos (by assumption)]; done) | (rw [if_neg (by assumption), if_neg (by assumption), if_neg (by simp [*])]; done)
 ·(try rw [h1]); replace h1 := zcl h1
  refine AWp_skip ?_
  refine zw3 ?_
  refine AWp_seq ?_
  refine zw2 ?_
  refine AWp_cond rfl (fun h2 => ?_) (fun h2 => ?_)
  ·(try rw [h2]); replace h2 := zcl h2
   refine AWp_regL ?_
   refine zv3 ?_
   refine AWp_seq ?_
   refine zw3 ?_
   refine AWp_cond rfl (fun h3 => ?_) (fun h3 => ?_)
   ·(try rw [h3]); replace h3 := zcl h3
    refine AWp_regL ?_
    refine zg4 ?_
    refine zt rfl (zc rfl (ritoa_c n.exp _ (by omega) (by omega))) ?_
    refine zv2 ?_
    refine zw2 ?_
    refine zrt ?_
    refine ResQ_1 rfl hcl trivial (Ret_of ?_)
    unfold jshow; first | (rw [if_pos (by assumption)]; done) | (rw [if_neg (by assumption), if_pos (by assumption), if_pos (by assumption)]; done) | (rw [if_neg (by assumption), if_pos (by assumption), if_neg (by simp [*])]; done) | (rw [if_neg (by assumption), if_neg (by assumption), if_pos (by assumption)]; done) | (rw [if_neg (by assumption), if_neg (by assumption), if_neg (by simp [*])]; done)
   ·(try rw [h3]); replace h3 := zcl h3
    refine AWp_skip ?_
    refine zw2 ?_
    refine zrt ?_
    refine ResQ_1 rfl hcl trivial (Ret_of ?_)
    unfold jshow; first | (rw [if_pos (by assumption)]; done) | (rw [if_neg (by assumption), if_pos (by assumption), if_pos (by assumption)]; done) | (rw [if_neg (by assumption), if_pos (by assumption), if_neg (by simp [*])]; done) | (rw [if_neg (by assumption), if_neg (by assumption), if_pos (by assumption)]; done) | (rw [if_neg (by assumption), if_neg (by assumption), if_neg (by simp [*])]; done)
  ·(try rw [h2]); replace h2 := zcl h2
   refine AWp_skip ?_
   refine AWp_seq ?_
   refine zw3 ?_
   refine AWp_cond rfl (fun h4 => ?_) (fun h4 => ?_)
   ·(try rw [h4]); replace h4 := zcl h4
    refine AWp_regL ?_
    refine zg4 ?_
    refine zt rfl (zc rfl (ritoa_c n.exp _ (by omega) (by omega))) ?_
    refine zv2 ?_
    refine zw2 ?_
    refine zrt ?_
    refine ResQ_1 rfl hcl trivial (Ret_of ?_)
    unfold jshow; first | (rw [if_pos (by assumption)]; done) | (rw [if_neg (by assumption), if_pos (by assumption), if_pos (by assumption)]; done) | (rw [if_neg (by assumption), if_pos (by assumption), if_neg (by simp [*])]; done) | (rw [if_neg (by assumption), if_neg (by assumption), if_pos (by assumption)]; done) | (rw [if_neg (by assumption), if_neg (by assumption), if_neg (by simp [*])]; done)
   ·(try rw [h4]); replace h4 := zcl h4
    refine AWp_skip ?_
    refine zw2 ?_
    refine zrt ?_
    refine ResQ_1 rfl hcl trivial (Ret_of ?_)
    unfold jshow; first | (rw [if_pos (by assumption)]; done) | (rw [if_neg (by assumption), if_pos (by assumption), if_pos (by assumption)]; done) | (rw [if_neg (by assumption), if_pos (by assumption), if_neg (by simp [*])]; done) | (rw [if_neg (by assumption), if_neg (by assumption), if_pos (by assumption)]; done) | (rw [if_neg (by assumption), if_neg (by assumption), if_neg (by simp [*])]; done)
end Lg
set_option maxRecDepth 20000
set_option maxHeartbeats 4000000
namespace Lg
open Go Go.Proofs Go.RowKit
variable [GLay] 
end Lg
set_option maxRecDepth 20000
set_option maxHeartbeats 4000000
namespace Lg
open Go Go.Proofs Go.RowKit
variable [GLay] 
end Lg
set_option maxRecDepth 20000
set_option maxHeartbeats 4000000
namespace Lg
open Go Go.Proofs Go.RowKit
variable [GLay] 
end Lg
namespace Lg
open Go
variable [GLay] {σ : List AO}
theorem bsc1 (c : UInt8) : srcv σ (.sl true 1 [[.int .u8 (c.toNat : Int)]]) = some (bcells ⟨#[c]⟩, 1) := rfl
theorem bsc2 (c d : UInt8) : srcv σ (.sl true 1 [[.int .u8 (c.toNat : Int)], [.int .u8 (d.toNat : Int)]]) = some (bcells ⟨#[c, d]⟩, 2) := rfl
theorem bq1 (x : BL) (c : UInt8) : ba x ++ (⟨#[92]⟩ : ByteArray) ++ (⟨#[c]⟩ : ByteArray) = ba (x ++ [92, c]) := by
  rw [show (⟨#[92]⟩ : ByteArray) = ba [92] from rfl, show (⟨#[c]⟩ : ByteArray) = ba [c] from rfl, ba_app, ba_app]; simp
theorem bq2 (x : BL) (c d : UInt8) : ba x ++ (⟨#[92, 117, 48, 48]⟩ : ByteArray) ++ (⟨#[c, d]⟩ : ByteArray) = ba (x ++ [92, 117, 48, 48, c, d]) := by
  rw [show (⟨#[92, 117, 48, 48]⟩ : ByteArray) = ba [92, 117, 48, 48] from rfl, show (⟨#[c, d]⟩ : ByteArray) = ba [c, d] from rfl, ba_app, ba_app]; simp
theorem bq3 (x : BL) (c : UInt8) : ba x ++ (⟨#[c]⟩ : ByteArray) = ba (x ++ [c]) := by
  rw [show (⟨#[c]⟩ : ByteArray) = ba [c] from rfl, ba_app]
end Lg
set_option maxRecDepth 20000
set_option maxHeartbeats 4000000
namespace Lg
open Go Go.Proofs Go.RowKit
variable [GLay] 
theorem rquote_c (l : BL) (σ : List AO) (hl : l.length ≤ 1000000) : ACalls Tryz.prog 50 [.str (ba l)] σ (Ret (.str (ba (quoteL l))) σ) := by
 refine ACalls_body Tryz.func50 rfl Tryz.ntmps50 (res1 Tryz.results50) (Nat.le_of_ble_eq_true rfl) (fun hcl hal => ?_)
 have hbs : (ba l).size = l.length := ba_size l
 have h1s : ∀ x, (ByteArray.mk #[x]).size = 1 := fun x => rfl
 have h2s : ∀ x y, (ByteArray.mk #[x, y]).size = 2 := fun x y => rfl
 have h4s : (ByteArray.mk #[92, 117, 48, 48]).size = 4 := rfl
 have h92 := h1s 92
 have h34 := h1s 34
 refine zw1 ?_
 refine zw1 ?_
 refine AWp_seq ?_
 refine zw1 ?_
 refine AWp_block ?_
 -- loop 0 LIVE 0:param 2:assign 3:assign 4:assign
 refine AWp_loop (ι := Nat) (fun i => i ≤ l.length) (fun i => ⟨[], [(0, .str (ba l)), (3, .str (ba (34 :: qbody (l.take i)))), (4, .int .i64 (i : Int))]⟩) (fun i => σ) (fun i => l.length - i) (0) (Nat.zero_le _) ?_ rfl (fun i hi => ?_)
 ·exact ⟨rfl, rfl, rfl, rfl, trivial⟩
 have hqt := qbody_len (l.take i)
 rw [List.length_take] at hqt
 have hbq : (ba (34 :: qbody (l.take i))).size = (qbody (l.take i)).length + 1 := by rw [ba_size]; rfl
 refine AWp_seq ?_
 refine zw4 ?_
 refine AWp_cond rfl (fun h1 => ?_) (fun h1 => ?_)
 ·(try rw [h1]); replace h1 := zcl h1
  refine AWp_skip ?_
  refine AWp_seq ?_
  refine AWp_block ?_
  refine zu3 ?_
  simp only [Int.toNat_natCast]
  rw [show bat (ba l) i = l.getD i 0 from bat_ba l i]
  have hc := qbody_take (l := l) (i := i) (by omega)
  generalize l.getD i 0 = c at hc ⊢
  refine zv1 ?_
  refine zu3 ?_
  refine zsp 18 rfl (fun h2 => ?_) fun h2 => ?_
  ·rw [h2]; replace h2 := zcl h2
   refine zv3 ?_
   refine AWp_condT rfl ?_
   refine AWp_regL ?_
   refine zg2 ?_
   have h1c := h1s c
   have hsa := ByteArray.size_append (a := ba (34 :: qbody (l.take i))) (b := (⟨#[92]⟩ : ByteArray))
   refine zg1 ?_
   refine zt rfl (op_buildSlice [[_]] rfl Tryz.underlying102 Tryz.sizeOf5 Tryz.zeroValue5 rfl (by decide) (by decide) rfl rfl rfl rfl rfl) ?_
   refine zt rfl (op_bytesStr (b := _) (m := 1) rfl Tryz.underlying102 Tryz.underlying5 Tryz.underlying9 (bsc1 c) rfl rfl) ?_
   refine zv2 ?_
   refine AWp_regL ?_
   refine zv3 ?_
   refine ⟨i + 1, σ.length, by omega, by omega, Nat.le_refl _, ⟨rfl, rfl, ?_, rfl, trivial⟩, hcl, ?_, List.take_length⟩
   ·rw [hc]; refine congrArg AV.str (?_ : _ = _); first | (rw [qch1 (by omega)]; exact bq1 _ _) | (rw [qch2 (by omega) (by omega)]; exact bq2 _ _ _) | (rw [qch3 (by omega) (by omega)]; exact bq3 _ _)
   ·simp [ltE, AV.lt]
  ·rw [h2]; replace h2 := zcl h2
   refine zv3 ?_
   refine AWp_cond rfl (fun h3 => ?_) (fun h3 => ?_)
   ·(try rw [h3]); replace h3 := zcl h3
    refine AWp_regL ?_
    refine zg2 ?_
    have h1c := h1s c
    have hsa := ByteArray.size_append (a := ba (34 :: qbody (l.take i))) (b := (⟨#[92]⟩ : ByteArray))
    refine zg1 ?_
    refine zt rfl (op_buildSlice [[_]] rfl Tryz.underlying102 Tryz.sizeOf5 Tryz.zeroValue5 rfl (by decide) (by decide) rfl rfl rfl rfl rfl) ?_
    refine zt rfl (op_bytesStr (b := _) (m := 1) rfl Tryz.underlying102 Tryz.underlying5 Tryz.underlying9 (bsc1 c) rfl rfl) ?_
    refine zv2 ?_
    refine AWp_regL ?_
    refine zv3 ?_
    refine ⟨i + 1, σ.length, by omega, by omega, Nat.le_refl _, ⟨rfl, rfl, ?_, rfl, trivial⟩, hcl, ?_, List.take_length⟩
    ·rw [hc]; refine congrArg AV.str (?_ : _ = _); first | (rw [qch1 (by omega)]; exact bq1 _ _) | (rw [qch2 (by omega) (by omega)]; exact bq2 _ _ _) | (rw [qch3 (by omega) (by omega)]; exact bq3 _ _)
    ·simp [ltE, AV.lt]
   ·(try rw [h3]); replace h3 := zcl h3
    refine zw2 ?_
    refine AWp_cond rfl (fun h4 => ?_) (fun h4 => ?_)
    ·(try rw [h4]); replace h4 := zcl h4
     refine zw1 ?_
     refine AWp_drawL #[0, 1, 0, 0, 8, 24, 60, 0, 0, 256, 768, 1920, 4092, 8188, 16383, 32767] Tryz.mixed (by decide +kernel) (by decide +kernel) ?_
     refine zd2 ?_
     have hsa := ByteArray.size_append (a := ba (34 :: qbody (l.take i))) (b := (⟨#[92, 117, 48, 48]⟩ : ByteArray))
     have h2c := h2s (hxd (c.toNat / 16)) (hxd (c.toNat % 16))
     refine zd3 ?_
     refine yA rfl rfl (fun _ => op_quo64 rfl rfl rfl (by omega) (by omega) (by omega)) ?_
     refine yA rfl rfl (fun _ => op_index_strB rfl Tryz.underlying9 rfl rfl (by omega) (by rw [show (ByteArray.mk #[48, 49, 50, 51, 52, 53, 54, 55, 56, 57, 97, 98, 99, 100, 101, 102]).size = 16 from rfl]; have := c.toNat_lt; omega)) ?_
     rw [show ((c.toNat : Int) / 16).toNat = c.toNat / 16 by omega]
     refine zd3 ?_
     refine yA rfl rfl (fun _ => op_rem64 rfl rfl rfl (by omega) (by omega)) ?_
     refine yA rfl rfl (fun _ => op_index_strB rfl Tryz.underlying9 rfl rfl (by omega) (by rw [show (ByteArray.mk #[48, 49, 50, 51, 52, 53, 54, 55, 56, 57, 97, 98, 99, 100, 101, 102]).size = 16 from rfl]; have := c.toNat_lt; omega)) ?_
     rw [show ((c.toNat : Int) % 16).toNat = c.toNat % 16 by omega]
     refine yA rfl rfl (fun _ => op_buildSlice [[_], [_]] rfl Tryz.underlying102 Tryz.sizeOf5 Tryz.zeroValue5 rfl (by decide) (by decide) rfl rfl rfl rfl rfl) ?_
     refine yA rfl rfl (fun _ => op_bytesStr (b := _) (m := 2) rfl Tryz.underlying102 Tryz.underlying5 Tryz.underlying9 (bsc2 (hxd (c.toNat / 16)) (hxd (c.toNat % 16))) rfl rfl) ?_
     refine zd2 ?_
     refine RP.nil rfl ?_
     refine AWp_regL ?_
     refine zv3 ?_
     refine ⟨i + 1, σ.length, by omega, by omega, Nat.le_refl _, ⟨rfl, rfl, ?_, rfl, trivial⟩, hcl, ?_, List.take_length⟩
     ·rw [hc]; refine congrArg AV.str (?_ : _ = _); first | (rw [qch1 (by omega)]; exact bq1 _ _) | (rw [qch2 (by omega) (by omega)]; exact bq2 _ _ _) | (rw [qch3 (by omega) (by omega)]; exact bq3 _ _)
     ·simp [ltE, AV.lt]
    ·(try rw [h4]); replace h4 := zcl h4
     refine AWp_regL ?_
     refine zg2 ?_
     have h1c := h1s c
     refine zt rfl (op_buildSlice [[_]] rfl Tryz.underlying102 Tryz.sizeOf5 Tryz.zeroValue5 rfl (by decide) (by decide) rfl rfl rfl rfl rfl) ?_
     refine zt rfl (op_bytesStr (b := _) (m := 1) rfl Tryz.underlying102 Tryz.underlying5 Tryz.underlying9 (bsc1 c) rfl rfl) ?_
     refine zv2 ?_
     refine AWp_regL ?_
     refine zv3 ?_
     refine ⟨i + 1, σ.length, by omega, by omega, Nat.le_refl _, ⟨rfl, rfl, ?_, rfl, trivial⟩, hcl, ?_, List.take_length⟩
     ·rw [hc]; refine congrArg AV.str (?_ : _ = _); first | (rw [qch1 (by omega)]; exact bq1 _ _) | (rw [qch2 (by omega) (by omega)]; exact bq2 _ _ _) | (rw [qch3 (by omega) (by omega)]; exact bq3 _ _)
     ·simp [ltE, AV.lt]
 ·(try rw [h1]); replace h1 := zcl h1
  refine AWp_exit ?_
  refine zw3 ?_
  refine zrt ?_
  refine ResQ_10 rfl hcl trivial (Ret_of ?_)
  rw [show i = l.length by omega, List.take_length]; exact congrArg AV.str (bq3 _ 34)
end Lg
set_option maxRecDepth 20000
set_option maxHeartbeats 4000000
namespace Lg
open Go Go.Proofs Go.RowKit
variable [GLay] 
theorem rquoteT_c (s : ByteArray) (σ : List AO) (hs : s.size ≤ 1000000) : ACalls Tryz.prog 50 [.str s] σ (Ret (.str (ba (quoteL s.data.toList))) σ) := by
  have h := rquote_c s.data.toList σ hs
  rwa [← ba_eta] at h
end Lg
