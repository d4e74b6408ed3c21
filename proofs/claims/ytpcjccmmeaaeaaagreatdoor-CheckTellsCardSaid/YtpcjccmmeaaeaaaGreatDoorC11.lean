/- A part of the proof of Whatever two texts are handed in: of each node of the first one's schema the program tells just those keywords that the second one's value fails by the document.: W21 W22 D7 Sh5 P1 Lc6 Lc7 Lg60 Lc8 Lc12 Lc13 D8 D9 VDt. -/
import Derived.Test.YtpcjccmmeaaeaaaGreatDoorC10
import Derived.Test.YtpcjccmmeaaeaaaGreatDoorC4
import Derived.Test.YtpcjccmmeaaeaaaGreatDoorC9
import Derived.Test.YtpcjccmmeaaeaaaGreatDoorC3
import Derived.Test.YtpcjccmmeaaeaaaGreatDoorC5
import Derived.Test.YtpcjccmmeaaeaaaGreatDoorC8
import Derived.Test.YtpcjccmmeaaeaaaGreatDoorC7
import Derived.Shelf.Strings.Replace
import Derived.Shelf.Strings.Split
import Derived.Shelf.Strings.Shaped
import Derived.Test.YtpcjccmmeaaeaaaGreatDoorProg
import Derived.SizedLaws
set_option linter.unusedVariables false
set_option linter.unusedSimpArgs false
set_option linter.unusedSectionVars false
set_option maxRecDepth 20000
set_option maxHeartbeats 4000000
namespace Lg
open Go Go.Proofs Go.RowKit
variable [GLay] 
theorem value_r (s : ByteArray) (hs : s.size ≤ 100000) : ∀ (n : Nat) (r : RS) (p : Nat) (σ : List AO), σ[p]? = some (rbox s r) → ROK s r → s.size + 1 < n + r.a → ACalls Tryz.prog 34 [.ptr p 0] σ (Ret (.agg (vcells (rval n s r).1)) (σ.set p (rbox s (rval n s r).2))) := by
 intro n
 induction n with
 | zero => intro r p σ hσ h hn; exfalso; have := h.a; omega
 | succ n ih =>
 intro r p σ hσ h hn
 have hp : p < σ.length := (List.getElem?_eq_some_iff.1 hσ).1
 have hb1 := rblank_to h
 have hta := hb1.a
 refine ACalls_bodyC Tryz.func34 rfl Tryz.ntmps34 (by rw [Tryz.results34]; exact (.ck Tryz.isAgg28 Tryz.sizeOf28 .nil)) (Nat.le_of_ble_eq_true rfl) (fun hcl hal => ?_)
 refine AWp_heap (set_same hσ) ?_
 refine zw1 ?_
 refine zw1 ?_
 refine zu1 ?_
 refine zt rfl (zc rfl (callSA hp (blank_r s r p _ (get_setA hp) hs h))) ?_
 refine zon ?_
 refine AWp_seq ?_
 have hres : rval (n + 1) s r = ((rone (rval n s) s (rblank s r)).1, rblank s (rone (rval n s) s (rblank s r)).2) := rfl
 generalize rblank s r = t at hb1 hta hres ⊢
 have htk := hb1.ok.a
 have htb := hb1.ok.b
 have hn2 : s.size + 1 < n + t.a + 1 := by omega
 refine AWp_regL ?_
 refine zg1 ?_
 refine zt rfl (zc rfl (peek_r s t p _ (get_setA hp))) ?_
 refine zv1 ?_
 refine AWp_join (ι := AV × AV × List AO) (fun z => AVle z.1 (.sl false 8 (lcells (rone (rval n s) s t).1.l)) ∧ AVle z.2.1 (.sl false 9 (mcells (rone (rval n s) s t).1.m))) (fun z => ⟨[], [(0, .ptr p 0), (2, .ptr (σ.length + 0) 0), (3, .ptr (σ.length + 1) 0)]⟩) (fun z => σ.set p (rbox s (rone (rval n s) s t).2) ++ ([.box [.int .i64 0, .bool false, .bool false, .str e0, .int .i64 0, .str e0, .nils, .nils], .box [.int .i64 (rone (rval n s) s t).1.kind, .bool (rone (rval n s) s t).1.b, .bool (rone (rval n s) s t).1.n.neg, .str (rone (rval n s) s t).1.n.digits, .int .i64 (rone (rval n s) s t).1.n.exp, .str (rone (rval n s) s t).1.s, z.1, z.2.1]] ++ z.2.2)) ?_ (fun z hj => ?_)
 ·skip
  refine zw2 ?_
  refine AWp_cond rfl (fun h1 => ?_) (fun h1 => ?_)
  ·(try rw [h1]); (try simp only [decide_eq_true_eq, decide_eq_false_iff_not, Bool.not_eq_true', Bool.not_eq_false', Int.not_lt, Int.not_le, Bool.not_true, Bool.not_false, Int.toNat_natCast, tn1, tn2, tnn, bne_iff_ne, beq_iff_eq, beq_eq_false_iff_ne, ne_eq, Decidable.not_not] at h1)
   have hpk := pk_yes (s := s) (a := t.a) (bad := t.bad) (by omega)
   refine AWp_regL ?_
   refine zg1 ?_
   refine zt rfl (zc rfl (callSA hp (object_r s n ih t p _ (get_setA hp) hs hb1.ok hpk.1 hpk.2.1 hn2))) ?_
   rw [vcells_eq (robj (rval n s) s t).1]
   refine zv1 ?_
   have hone : rone (rval n s) s t = robj (rval n s) s t := by unfold rone; rw [if_pos (by omega)]
   simp only [hone]
   exact ⟨(.sl false 8 (lcells (robj (rval n s) s t).1.l), .sl false 9 (mcells (robj (rval n s) s t).1.m), _), ⟨AVle.refl _, AVle.refl _⟩, ⟨rfl, rfl, rfl, rfl, trivial⟩, rfl⟩
  ·(try rw [h1]); (try simp only [decide_eq_true_eq, decide_eq_false_iff_not, Bool.not_eq_true', Bool.not_eq_false', Int.not_lt, Int.not_le, Bool.not_true, Bool.not_false, Int.toNat_natCast, tn1, tn2, tnn, bne_iff_ne, beq_iff_eq, beq_eq_false_iff_ne, ne_eq, Decidable.not_not] at h1)
   refine zw2 ?_
   refine AWp_cond rfl (fun h2 => ?_) (fun h2 => ?_)
   ·(try rw [h2]); (try simp only [decide_eq_true_eq, decide_eq_false_iff_not, Bool.not_eq_true', Bool.not_eq_false', Int.not_lt, Int.not_le, Bool.not_true, Bool.not_false, Int.toNat_natCast, tn1, tn2, tnn, bne_iff_ne, beq_iff_eq, beq_eq_false_iff_ne, ne_eq, Decidable.not_not] at h2)
    have hpk := pk_yes (s := s) (a := t.a) (bad := t.bad) (by omega)
    refine AWp_regL ?_
    refine zg1 ?_
    refine zt rfl (zc rfl (callSA hp (array_r s n ih t p _ (get_setA hp) hs hb1.ok hpk.1 hpk.2.1 hn2))) ?_
    rw [vcells_eq (rarr (rval n s) s t).1]
    refine zv1 ?_
    have hone : rone (rval n s) s t = rarr (rval n s) s t := by unfold rone; rw [if_neg (by omega), if_pos (by omega)]
    simp only [hone]
    exact ⟨(.sl false 8 (lcells (rarr (rval n s) s t).1.l), .sl false 9 (mcells (rarr (rval n s) s t).1.m), _), ⟨AVle.refl _, AVle.refl _⟩, ⟨rfl, rfl, rfl, rfl, trivial⟩, rfl⟩
   ·(try rw [h2]); (try simp only [decide_eq_true_eq, decide_eq_false_iff_not, Bool.not_eq_true', Bool.not_eq_false', Int.not_lt, Int.not_le, Bool.not_true, Bool.not_false, Int.toNat_natCast, tn1, tn2, tnn, bne_iff_ne, beq_iff_eq, beq_eq_false_iff_ne, ne_eq, Decidable.not_not] at h2)
    refine zw2 ?_
    refine AWp_cond rfl (fun h3 => ?_) (fun h3 => ?_)
    ·(try rw [h3]); (try simp only [decide_eq_true_eq, decide_eq_false_iff_not, Bool.not_eq_true', Bool.not_eq_false', Int.not_lt, Int.not_le, Bool.not_true, Bool.not_false, Int.toNat_natCast, tn1, tn2, tnn, bne_iff_ne, beq_iff_eq, beq_eq_false_iff_ne, ne_eq, Decidable.not_not] at h3)
     refine AWp_regL ?_
     refine zg1 ?_
     refine zt rfl (zc rfl (callSA hp (text_r s t p _ (get_setA hp) hs hb1.ok))) ?_
     refine zv2 ?_
     have hone : rone (rval n s) s t = (.mk 3 false {} (rtext s t).1 [] [], (rtext s t).2) := by unfold rone; rw [if_neg (by omega), if_neg (by omega), if_pos (by omega)]
     simp only [hone]
     exact ⟨(.nils, .nils, _), ⟨nilL, nilM⟩, ⟨rfl, rfl, rfl, rfl, trivial⟩, rfl⟩
    ·(try rw [h3]); (try simp only [decide_eq_true_eq, decide_eq_false_iff_not, Bool.not_eq_true', Bool.not_eq_false', Int.not_lt, Int.not_le, Bool.not_true, Bool.not_false, Int.toNat_natCast, tn1, tn2, tnn, bne_iff_ne, beq_iff_eq, beq_eq_false_iff_ne, ne_eq, Decidable.not_not] at h3)
     refine zw2 ?_
     refine AWp_cond rfl (fun h4 => ?_) (fun h4 => ?_)
     ·(try rw [h4]); (try simp only [decide_eq_true_eq, decide_eq_false_iff_not, Bool.not_eq_true', Bool.not_eq_false', Int.not_lt, Int.not_le, Bool.not_true, Bool.not_false, Int.toNat_natCast, tn1, tn2, tnn, bne_iff_ne, beq_iff_eq, beq_eq_false_iff_ne, ne_eq, Decidable.not_not] at h4)
      refine AWp_regL ?_
      refine zg1 ?_
      refine zt rfl (zc rfl (callSA hp (want_c lNull s t p _ (get_setA hp) hs (by decide) hb1.ok))) ?_
      refine zon ?_
      have hone : rone (rval n s) s t = (vz, rwant s lNull t) := by unfold rone; rw [if_neg (by omega), if_neg (by omega), if_neg (by omega), if_pos (by omega)]
      simp only [hone]
      exact ⟨(.nils, .nils, _), ⟨nilL, nilM⟩, ⟨rfl, rfl, rfl, rfl, trivial⟩, rfl⟩
     ·(try rw [h4]); (try simp only [decide_eq_true_eq, decide_eq_false_iff_not, Bool.not_eq_true', Bool.not_eq_false', Int.not_lt, Int.not_le, Bool.not_true, Bool.not_false, Int.toNat_natCast, tn1, tn2, tnn, bne_iff_ne, beq_iff_eq, beq_eq_false_iff_ne, ne_eq, Decidable.not_not] at h4)
      refine zw2 ?_
      refine AWp_cond rfl (fun h5 => ?_) (fun h5 => ?_)
      ·(try rw [h5]); (try simp only [decide_eq_true_eq, decide_eq_false_iff_not, Bool.not_eq_true', Bool.not_eq_false', Int.not_lt, Int.not_le, Bool.not_true, Bool.not_false, Int.toNat_natCast, tn1, tn2, tnn, bne_iff_ne, beq_iff_eq, beq_eq_false_iff_ne, ne_eq, Decidable.not_not] at h5)
       refine zu1 ?_
       refine zt rfl (zc rfl (callSA hp (want_c lTrue s t p _ (get_setA hp) hs (by decide) hb1.ok))) ?_
       refine zon ?_
       refine AWp_regL ?_
       refine zv2 ?_
       have hone : rone (rval n s) s t = (.mk 1 true {} e0 [] [], rwant s lTrue t) := by unfold rone; rw [if_neg (by omega), if_neg (by omega), if_neg (by omega), if_neg (by omega), if_pos (by omega)]
       simp only [hone]
       exact ⟨(.nils, .nils, _), ⟨nilL, nilM⟩, ⟨rfl, rfl, rfl, rfl, trivial⟩, rfl⟩
      ·(try rw [h5]); (try simp only [decide_eq_true_eq, decide_eq_false_iff_not, Bool.not_eq_true', Bool.not_eq_false', Int.not_lt, Int.not_le, Bool.not_true, Bool.not_false, Int.toNat_natCast, tn1, tn2, tnn, bne_iff_ne, beq_iff_eq, beq_eq_false_iff_ne, ne_eq, Decidable.not_not] at h5)
       refine zw2 ?_
       refine AWp_cond rfl (fun h6 => ?_) (fun h6 => ?_)
       ·(try rw [h6]); (try simp only [decide_eq_true_eq, decide_eq_false_iff_not, Bool.not_eq_true', Bool.not_eq_false', Int.not_lt, Int.not_le, Bool.not_true, Bool.not_false, Int.toNat_natCast, tn1, tn2, tnn, bne_iff_ne, beq_iff_eq, beq_eq_false_iff_ne, ne_eq, Decidable.not_not] at h6)
        refine zu1 ?_
        refine zt rfl (zc rfl (callSA hp (want_c lFalse s t p _ (get_setA hp) hs (by decide) hb1.ok))) ?_
        refine zon ?_
        refine AWp_regL ?_
        refine zv2 ?_
        have hone : rone (rval n s) s t = (.mk 1 false {} e0 [] [], rwant s lFalse t) := by unfold rone; rw [if_neg (by omega), if_neg (by omega), if_neg (by omega), if_neg (by omega), if_neg (by omega), if_pos (by omega)]
        simp only [hone]
        exact ⟨(.nils, .nils, _), ⟨nilL, nilM⟩, ⟨rfl, rfl, rfl, rfl, trivial⟩, rfl⟩
       ·(try rw [h6]); (try simp only [decide_eq_true_eq, decide_eq_false_iff_not, Bool.not_eq_true', Bool.not_eq_false', Int.not_lt, Int.not_le, Bool.not_true, Bool.not_false, Int.toNat_natCast, tn1, tn2, tnn, bne_iff_ne, beq_iff_eq, beq_eq_false_iff_ne, ne_eq, Decidable.not_not] at h6)
        refine zu3 ?_
        refine zsp 42 rfl (fun h7 => ?_) fun h7 => ?_
        ·rw [h7]; (try simp only [decide_eq_true_eq, decide_eq_false_iff_not, Bool.not_eq_true', Bool.not_eq_false', Int.not_lt, Int.not_le, Bool.not_true, Bool.not_false, Int.toNat_natCast, tn1, tn2, tnn, bne_iff_ne, beq_iff_eq, beq_eq_false_iff_ne, ne_eq, Decidable.not_not] at h7)
         refine zv7 ?_
         refine AWp_condT rfl ?_
         refine AWp_seq ?_
         have hpk := pk_yes (s := s) (a := t.a) (bad := t.bad) (by omega)
         have hel := rEnd_le (s := s) (a := t.a) (by omega)
         refine AWp_drawL #[0, 1, 3, 7, 0, 16, 48, 112, 255, 511, 1023, 1023, 2047, 8191] Tryz.mixed (by decide +kernel) (by decide +kernel) ?_
         refine zd3 ?_
         refine zp1 ?_
         refine zd3 ?_
         refine zp1 ?_
         refine yP rfl rfl (zc rfl (end_c s t.a _ (by omega) (by omega))) (trivial) ?_
         refine zd5 ?_
         refine RP.nil rfl ?_
         refine AWp_join (ι := RS) (fun y => y = (if (rEnd s t.a).2 = true then t else rfail t (rEnd s t.a).1 1) ∧ y.a = t.a ∧ y.deep = t.deep) (fun y => ⟨[], [(0, .ptr p 0), (2, .ptr (σ.length + 0) 0), (3, .ptr (σ.length + 1) 0), (5, .int .i64 ((rEnd s t.a).1 : Int))]⟩) (fun y => σ.set p (rbox s y) ++ [.box [.int .i64 0, .bool false, .bool false, .str e0, .int .i64 0, .str e0, .nils, .nils], .box [.int .i64 0, .bool false, .bool false, .str e0, .int .i64 0, .str e0, .nils, .nils]]) ?_ (fun y hj => ?_)
         ·skip
          refine zw2 ?_
          refine AWp_cond rfl (fun h8 => ?_) (fun h8 => ?_)
          ·(try rw [h8]); (try simp only [decide_eq_true_eq, decide_eq_false_iff_not, Bool.not_eq_true', Bool.not_eq_false', Int.not_lt, Int.not_le, Bool.not_true, Bool.not_false, Int.toNat_natCast, tn1, tn2, tnn, bne_iff_ne, beq_iff_eq, beq_eq_false_iff_ne, ne_eq, Decidable.not_not] at h8)
           refine AWp_regL ?_
           refine zg2 ?_
           refine zt rfl (zc rfl (callSA hp (fail_r s t p _ (get_setA hp) ((rEnd s t.a).1 : Int) 1))) ?_
           refine zon ?_
           first | exact ⟨rfail t (rEnd s t.a).1 1, ⟨by rw [if_neg (by simp [*])], rfl, rfl⟩, ⟨rfl, rfl, rfl, rfl, rfl, trivial⟩, rfl⟩ | exact ⟨t, ⟨by rw [if_pos (by simp [*])], rfl, rfl⟩, ⟨rfl, rfl, rfl, rfl, rfl, trivial⟩, rfl⟩
          ·(try rw [h8]); (try simp only [decide_eq_true_eq, decide_eq_false_iff_not, Bool.not_eq_true', Bool.not_eq_false', Int.not_lt, Int.not_le, Bool.not_true, Bool.not_false, Int.toNat_natCast, tn1, tn2, tnn, bne_iff_ne, beq_iff_eq, beq_eq_false_iff_ne, ne_eq, Decidable.not_not] at h8)
           refine AWp_skip ?_
           first | exact ⟨rfail t (rEnd s t.a).1 1, ⟨by rw [if_neg (by simp [*])], rfl, rfl⟩, ⟨rfl, rfl, rfl, rfl, rfl, trivial⟩, rfl⟩ | exact ⟨t, ⟨by rw [if_pos (by simp [*])], rfl, rfl⟩, ⟨rfl, rfl, rfl, rfl, rfl, trivial⟩, rfl⟩
         ·skip
          obtain ⟨hy1, hy2, hy3⟩ := hj
          refine AWp_seq ?_
          refine AWp_drawL #[0, 1, 3, 7, 0, 16, 48, 112, 0, 511, 1023, 2047, 4095, 4095, 0, 24575, 65535] Tryz.mixed (by decide +kernel) (by decide +kernel) ?_
          refine zd3 ?_
          refine zp1 ?_
          refine zd3 ?_
          refine zp1 ?_
          refine zd2 ?_
          simp only [Int.toNat_natCast, hy2]
          refine yP rfl rfl (zc rfl (rnum_c (s.extract t.a (rEnd s t.a).1) _ (by rw [ByteArray.size_extract]; omega))) (trivial) ?_
          refine zd3 ?_
          refine yE rfl rfl (zoa) (⟨.inr (op_callF rfl rfl rfl Tryz.func63 rfl rfl (rnum_c (s.extract t.a (rEnd s t.a).1) _ (by rw [ByteArray.size_extract]; omega))), ⟨.inr (op_load1 rfl Tryz.isAgg3 (ldv_setA hp (by rw [← hy2]; rfl))), ⟨.inr (op_load1 rfl Tryz.isAgg9 (ldv_setA hp rfl)), trivial⟩⟩⟩) (trivial) ?_
          refine yEN rfl rfl rfl (zoa) (⟨.inl rfl, ⟨.inl rfl, ⟨.inl rfl, trivial⟩⟩⟩) (⟨rfl, trivial⟩) ?_
          refine zd1 ?_
          refine RP.nil rfl ?_
          refine AWp_join (ι := RS) (fun x => x = (if (rNum (s.extract t.a (rEnd s t.a).1)).2 = 0 then (if (rEnd s t.a).2 = true then t else rfail t (rEnd s t.a).1 1) else rfail (if (rEnd s t.a).2 = true then t else rfail t (rEnd s t.a).1 1) t.a 5) ∧ x.a = t.a ∧ x.deep = t.deep) (fun x => ⟨[], [(0, .ptr p 0), (2, .ptr (σ.length + 0) 0), (3, .ptr (σ.length + 1) 0), (5, .int .i64 ((rEnd s t.a).1 : Int)), (7, .ptr (σ.length + 2) 0)]⟩) (fun x => σ.set p (rbox s x) ++ [.box [.int .i64 0, .bool false, .bool false, .str e0, .int .i64 0, .str e0, .nils, .nils], .box [.int .i64 0, .bool false, .bool false, .str e0, .int .i64 0, .str e0, .nils, .nils], .box (ncells (rNum (s.extract t.a (rEnd s t.a).1)).1)]) ?_ (fun x hj => ?_)
          ·skip
           refine zw2 ?_
           refine AWp_cond rfl (fun h9 => ?_) (fun h9 => ?_)
           ·(try rw [h9]); (try simp only [decide_eq_true_eq, decide_eq_false_iff_not, Bool.not_eq_true', Bool.not_eq_false', Int.not_lt, Int.not_le, Bool.not_true, Bool.not_false, Int.toNat_natCast, tn1, tn2, tnn, bne_iff_ne, beq_iff_eq, beq_eq_false_iff_ne, ne_eq, Decidable.not_not] at h9)
            refine AWp_regL ?_
            refine zg5 ?_
            refine zt rfl (zc rfl (callSA hp (fail_r s y p _ (get_setA hp) (y.a : Int) 5))) ?_
            refine zon ?_
            first | exact ⟨rfail y y.a 5, ⟨by rw [if_neg (by assumption), ← hy1, hy2], hy2, hy3⟩, ⟨rfl, rfl, rfl, rfl, rfl, rfl, trivial⟩, rfl⟩ | exact ⟨y, ⟨by rw [if_pos (by assumption), ← hy1], hy2, hy3⟩, ⟨rfl, rfl, rfl, rfl, rfl, rfl, trivial⟩, rfl⟩
           ·(try rw [h9]); (try simp only [decide_eq_true_eq, decide_eq_false_iff_not, Bool.not_eq_true', Bool.not_eq_false', Int.not_lt, Int.not_le, Bool.not_true, Bool.not_false, Int.toNat_natCast, tn1, tn2, tnn, bne_iff_ne, beq_iff_eq, beq_eq_false_iff_ne, ne_eq, Decidable.not_not] at h9)
            refine AWp_skip ?_
            first | exact ⟨rfail y y.a 5, ⟨by rw [if_neg (by assumption), ← hy1, hy2], hy2, hy3⟩, ⟨rfl, rfl, rfl, rfl, rfl, rfl, trivial⟩, rfl⟩ | exact ⟨y, ⟨by rw [if_pos (by assumption), ← hy1], hy2, hy3⟩, ⟨rfl, rfl, rfl, rfl, rfl, rfl, trivial⟩, rfl⟩
          ·skip
           obtain ⟨hx1, hx2, hx3⟩ := hj
           refine zw5 ?_
           refine AWp_regL ?_
           refine zv3 ?_
           have hone : rone (rval n s) s t = rnumv s t := by unfold rone; rw [if_neg (by omega), if_neg (by omega), if_neg (by omega), if_neg (by omega), if_neg (by omega), if_neg (by omega), if_pos (by omega)]
           have hnum : rnumv s t = (.mk 2 false (rNum (s.extract t.a (rEnd s t.a).1)).1 e0 [] [], ⟨(rEnd s t.a).1, x.deep, x.bad, x.spot⟩) := by rw [hx3]; unfold rnumv; rw [← hx1]
           simp only [hone, hnum]
           exact ⟨(.nils, .nils, _), ⟨nilL, nilM⟩, ⟨rfl, rfl, rfl, rfl, trivial⟩, rfl⟩
        ·rw [h7]; (try simp only [decide_eq_true_eq, decide_eq_false_iff_not, Bool.not_eq_true', Bool.not_eq_false', Int.not_lt, Int.not_le, Bool.not_true, Bool.not_false, Int.toNat_natCast, tn1, tn2, tnn, bne_iff_ne, beq_iff_eq, beq_eq_false_iff_ne, ne_eq, Decidable.not_not] at h7)
         refine zg3 ?_
         refine zsp 45 rfl (fun h10 => ?_) fun h10 => ?_
         ·rw [h10]; (try simp only [decide_eq_true_eq, decide_eq_false_iff_not, Bool.not_eq_true', Bool.not_eq_false', Int.not_lt, Int.not_le, Bool.not_true, Bool.not_false, Int.toNat_natCast, tn1, tn2, tnn, bne_iff_ne, beq_iff_eq, beq_eq_false_iff_ne, ne_eq, Decidable.not_not] at h10)
          refine zv4 ?_
          refine AWp_cond rfl (fun h11 => ?_) (fun h11 => ?_)
          ·(try rw [h11]); (try simp only [decide_eq_true_eq, decide_eq_false_iff_not, Bool.not_eq_true', Bool.not_eq_false', Int.not_lt, Int.not_le, Bool.not_true, Bool.not_false, Int.toNat_natCast, tn1, tn2, tnn, bne_iff_ne, beq_iff_eq, beq_eq_false_iff_ne, ne_eq, Decidable.not_not] at h11)
           refine AWp_seq ?_
           have hpk := pk_yes (s := s) (a := t.a) (bad := t.bad) (by omega)
           have hel := rEnd_le (s := s) (a := t.a) (by omega)
           refine AWp_drawL #[0, 1, 3, 7, 0, 16, 48, 112, 255, 511, 1023, 1023, 2047, 8191] Tryz.mixed (by decide +kernel) (by decide +kernel) ?_
           refine zd3 ?_
           refine zp1 ?_
           refine zd3 ?_
           refine zp1 ?_
           refine yP rfl rfl (zc rfl (end_c s t.a _ (by omega) (by omega))) (trivial) ?_
           refine zd5 ?_
           refine RP.nil rfl ?_
           refine AWp_join (ι := RS) (fun y => y = (if (rEnd s t.a).2 = true then t else rfail t (rEnd s t.a).1 1) ∧ y.a = t.a ∧ y.deep = t.deep) (fun y => ⟨[], [(0, .ptr p 0), (2, .ptr (σ.length + 0) 0), (3, .ptr (σ.length + 1) 0), (5, .int .i64 ((rEnd s t.a).1 : Int))]⟩) (fun y => σ.set p (rbox s y) ++ [.box [.int .i64 0, .bool false, .bool false, .str e0, .int .i64 0, .str e0, .nils, .nils], .box [.int .i64 0, .bool false, .bool false, .str e0, .int .i64 0, .str e0, .nils, .nils]]) ?_ (fun y hj => ?_)
           ·skip
            refine zw2 ?_
            refine AWp_cond rfl (fun h12 => ?_) (fun h12 => ?_)
            ·(try rw [h12]); (try simp only [decide_eq_true_eq, decide_eq_false_iff_not, Bool.not_eq_true', Bool.not_eq_false', Int.not_lt, Int.not_le, Bool.not_true, Bool.not_false, Int.toNat_natCast, tn1, tn2, tnn, bne_iff_ne, beq_iff_eq, beq_eq_false_iff_ne, ne_eq, Decidable.not_not] at h12)
             refine AWp_regL ?_
             refine zg2 ?_
             refine zt rfl (zc rfl (callSA hp (fail_r s t p _ (get_setA hp) ((rEnd s t.a).1 : Int) 1))) ?_
             refine zon ?_
             first | exact ⟨rfail t (rEnd s t.a).1 1, ⟨by rw [if_neg (by simp [*])], rfl, rfl⟩, ⟨rfl, rfl, rfl, rfl, rfl, trivial⟩, rfl⟩ | exact ⟨t, ⟨by rw [if_pos (by simp [*])], rfl, rfl⟩, ⟨rfl, rfl, rfl, rfl, rfl, trivial⟩, rfl⟩
            ·(try rw [h12]); (try simp only [decide_eq_true_eq, decide_eq_false_iff_not, Bool.not_eq_true', Bool.not_eq_false', Int.not_lt, Int.not_le, Bool.not_true, Bool.not_false, Int.toNat_natCast, tn1, tn2, tnn, bne_iff_ne, beq_iff_eq, beq_eq_false_iff_ne, ne_eq, Decidable.not_not] at h12)
             refine AWp_skip ?_
             first | exact ⟨rfail t (rEnd s t.a).1 1, ⟨by rw [if_neg (by simp [*])], rfl, rfl⟩, ⟨rfl, rfl, rfl, rfl, rfl, trivial⟩, rfl⟩ | exact ⟨t, ⟨by rw [if_pos (by simp [*])], rfl, rfl⟩, ⟨rfl, rfl, rfl, rfl, rfl, trivial⟩, rfl⟩
           ·skip
            obtain ⟨hy1, hy2, hy3⟩ := hj
            refine AWp_seq ?_
            refine AWp_drawL #[0, 1, 3, 7, 0, 16, 48, 112, 0, 511, 1023, 2047, 4095, 4095, 0, 24575, 65535] Tryz.mixed (by decide +kernel) (by decide +kernel) ?_
            refine zd3 ?_
            refine zp1 ?_
            refine zd3 ?_
            refine zp1 ?_
            refine zd2 ?_
            simp only [Int.toNat_natCast, hy2]
            refine yP rfl rfl (zc rfl (rnum_c (s.extract t.a (rEnd s t.a).1) _ (by rw [ByteArray.size_extract]; omega))) (trivial) ?_
            refine zd3 ?_
            refine yE rfl rfl (zoa) (⟨.inr (op_callF rfl rfl rfl Tryz.func63 rfl rfl (rnum_c (s.extract t.a (rEnd s t.a).1) _ (by rw [ByteArray.size_extract]; omega))), ⟨.inr (op_load1 rfl Tryz.isAgg3 (ldv_setA hp (by rw [← hy2]; rfl))), ⟨.inr (op_load1 rfl Tryz.isAgg9 (ldv_setA hp rfl)), trivial⟩⟩⟩) (trivial) ?_
            refine yEN rfl rfl rfl (zoa) (⟨.inl rfl, ⟨.inl rfl, ⟨.inl rfl, trivial⟩⟩⟩) (⟨rfl, trivial⟩) ?_
            refine zd1 ?_
            refine RP.nil rfl ?_
            refine AWp_join (ι := RS) (fun x => x = (if (rNum (s.extract t.a (rEnd s t.a).1)).2 = 0 then (if (rEnd s t.a).2 = true then t else rfail t (rEnd s t.a).1 1) else rfail (if (rEnd s t.a).2 = true then t else rfail t (rEnd s t.a).1 1) t.a 5) ∧ x.a = t.a ∧ x.deep = t.deep) (fun x => ⟨[], [(0, .ptr p 0), (2, .ptr (σ.length + 0) 0), (3, .ptr (σ.length + 1) 0), (5, .int .i64 ((rEnd s t.a).1 : Int)), (7, .ptr (σ.length + 2) 0)]⟩) (fun x => σ.set p (rbox s x) ++ [.box [.int .i64 0, .bool false, .bool false, .str e0, .int .i64 0, .str e0, .nils, .nils], .box [.int .i64 0, .bool false, .bool false, .str e0, .int .i64 0, .str e0, .nils, .nils], .box (ncells (rNum (s.extract t.a (rEnd s t.a).1)).1)]) ?_ (fun x hj => ?_)
            ·skip
             refine zw2 ?_
             refine AWp_cond rfl (fun h13 => ?_) (fun h13 => ?_)
             ·(try rw [h13]); (try simp only [decide_eq_true_eq, decide_eq_false_iff_not, Bool.not_eq_true', Bool.not_eq_false', Int.not_lt, Int.not_le, Bool.not_true, Bool.not_false, Int.toNat_natCast, tn1, tn2, tnn, bne_iff_ne, beq_iff_eq, beq_eq_false_iff_ne, ne_eq, Decidable.not_not] at h13)
              refine AWp_regL ?_
              refine zg5 ?_
              refine zt rfl (zc rfl (callSA hp (fail_r s y p _ (get_setA hp) (y.a : Int) 5))) ?_
              refine zon ?_
              first | exact ⟨rfail y y.a 5, ⟨by rw [if_neg (by assumption), ← hy1, hy2], hy2, hy3⟩, ⟨rfl, rfl, rfl, rfl, rfl, rfl, trivial⟩, rfl⟩ | exact ⟨y, ⟨by rw [if_pos (by assumption), ← hy1], hy2, hy3⟩, ⟨rfl, rfl, rfl, rfl, rfl, rfl, trivial⟩, rfl⟩
             ·(try rw [h13]); (try simp only [decide_eq_true_eq, decide_eq_false_iff_not, Bool.not_eq_true', Bool.not_eq_false', Int.not_lt, Int.not_le, Bool.not_true, Bool.not_false, Int.toNat_natCast, tn1, tn2, tnn, bne_iff_ne, beq_iff_eq, beq_eq_false_iff_ne, ne_eq, Decidable.not_not] at h13)
              refine AWp_skip ?_
              first | exact ⟨rfail y y.a 5, ⟨by rw [if_neg (by assumption), ← hy1, hy2], hy2, hy3⟩, ⟨rfl, rfl, rfl, rfl, rfl, rfl, trivial⟩, rfl⟩ | exact ⟨y, ⟨by rw [if_pos (by assumption), ← hy1], hy2, hy3⟩, ⟨rfl, rfl, rfl, rfl, rfl, rfl, trivial⟩, rfl⟩
            ·skip
             obtain ⟨hx1, hx2, hx3⟩ := hj
             refine zw5 ?_
             refine AWp_regL ?_
             refine zv3 ?_
             have hone : rone (rval n s) s t = rnumv s t := by unfold rone; rw [if_neg (by omega), if_neg (by omega), if_neg (by omega), if_neg (by omega), if_neg (by omega), if_neg (by omega), if_pos (by omega)]
             have hnum : rnumv s t = (.mk 2 false (rNum (s.extract t.a (rEnd s t.a).1)).1 e0 [] [], ⟨(rEnd s t.a).1, x.deep, x.bad, x.spot⟩) := by rw [hx3]; unfold rnumv; rw [← hx1]
             simp only [hone, hnum]
             exact ⟨(.nils, .nils, _), ⟨nilL, nilM⟩, ⟨rfl, rfl, rfl, rfl, trivial⟩, rfl⟩
          ·(try rw [h11]); (try simp only [decide_eq_true_eq, decide_eq_false_iff_not, Bool.not_eq_true', Bool.not_eq_false', Int.not_lt, Int.not_le, Bool.not_true, Bool.not_false, Int.toNat_natCast, tn1, tn2, tnn, bne_iff_ne, beq_iff_eq, beq_eq_false_iff_ne, ne_eq, Decidable.not_not] at h11)
           refine AWp_regL ?_
           refine zg5 ?_
           refine zt rfl (zc rfl (callSA hp (fail_r s t p _ (get_setA hp) (t.a : Int) 1))) ?_
           refine zon ?_
           have hone : rone (rval n s) s t = (vz, rfail t t.a 1) := by unfold rone; rw [if_neg (by omega), if_neg (by omega), if_neg (by omega), if_neg (by omega), if_neg (by omega), if_neg (by omega), if_neg (by omega)]
           simp only [hone]
           exact ⟨(.nils, .nils, _), ⟨nilL, nilM⟩, ⟨rfl, rfl, rfl, rfl, trivial⟩, rfl⟩
         ·rw [h10]; (try simp only [decide_eq_true_eq, decide_eq_false_iff_not, Bool.not_eq_true', Bool.not_eq_false', Int.not_lt, Int.not_le, Bool.not_true, Bool.not_false, Int.toNat_natCast, tn1, tn2, tnn, bne_iff_ne, beq_iff_eq, beq_eq_false_iff_ne, ne_eq, Decidable.not_not] at h10)
          refine zv4 ?_
          refine AWp_condF rfl ?_
          refine AWp_regL ?_
          refine zg5 ?_
          refine zt rfl (zc rfl (callSA hp (fail_r s t p _ (get_setA hp) (t.a : Int) 1))) ?_
          refine zon ?_
          have hone : rone (rval n s) s t = (vz, rfail t t.a 1) := by unfold rone; rw [if_neg (by omega), if_neg (by omega), if_neg (by omega), if_neg (by omega), if_neg (by omega), if_neg (by omega), if_neg (by omega)]
          simp only [hone]
          exact ⟨(.nils, .nils, _), ⟨nilL, nilM⟩, ⟨rfl, rfl, rfl, rfl, trivial⟩, rfl⟩
 ·skip
  obtain ⟨L, M, w⟩ := z
  obtain ⟨hL, hM⟩ := hj
  simp only at hL hM ⊢
  refine AWp_seq ?_
  have hok := rone_ok hs (fun r h => rval_ok hs n r h) hb1.ok
  refine AWp_boxLeS 1 (bs' := [.int .i64 (rone (rval n s) s t).1.kind, .bool (rone (rval n s) s t).1.b, .bool (rone (rval n s) s t).1.n.neg, .str (rone (rval n s) s t).1.n.digits, .int .i64 (rone (rval n s) s t).1.n.exp, .str (rone (rval n s) s t).1.s, .sl false 8 (lcells (rone (rval n s) s t).1.l), .sl false 9 (mcells (rone (rval n s) s t).1.m)]) rfl ⟨AVle.refl _, AVle.refl _, AVle.refl _, AVle.refl _, AVle.refl _, AVle.refl _, hL, hM, trivial⟩ ?_
  refine AWp_regL ?_
  refine zg1 ?_
  refine zt rfl (zc rfl (callSA hp (blank_r s (rone (rval n s) s t).2 p _ (get_setA hp) hs hok.fwd.ok))) ?_
  refine zon ?_
  refine zw2 ?_
  refine zrt ?_
  rw [hres, vcells_eq]
  exact RQ_retS (rkvs_cons (rkv_ckS rfl rfl rfl) rfl) (x := rbox s (rblank s (rone (rval n s) s t).2)) hcl (by simp [AO.cells, AV.ltL, AV.lt]) (by simp [rks, AV.lt, AV.ltL]) ⟨rfl, rfl⟩
end Lg
set_option maxRecDepth 20000
set_option maxHeartbeats 4000000
namespace Lg
open Go Go.Proofs Go.RowKit
variable [GLay] 
theorem rpar_c (s : ByteArray) (hs : s.size ≤ 100000) (p : Nat) (σ : List AO) (hσ : σ[p]? = some (rbox s ⟨0, 0, 0, 0⟩)) : ACalls Tryz.prog 34 [.ptr p 0] σ (Ret (.agg (vcells (rpar s).1)) (σ.set p (rbox s (rpar s).2))) := value_r s hs (s.size + 2) ⟨0, 0, 0, 0⟩ p σ hσ ⟨Nat.zero_le _, fun _ => Nat.zero_le _, Int.le_refl _, Int.le_refl _⟩ (by dsimp only; omega)
theorem parse_c (s : ByteArray) (σ : List AO) (hs : s.size ≤ 100000) : ACalls Tryz.prog 10 [.str s] σ (Ret (.tup [.agg (vcells (rParse s).1), .int .i64 (rParse s).2.1, .int .i64 (rParse s).2.2]) σ) := by
 refine ACalls_bodyC Tryz.func10 rfl Tryz.ntmps10 (by rw [Tryz.results10]; exact (.ck Tryz.isAgg28 Tryz.sizeOf28 (.t (.t .nil)))) (Nat.le_of_ble_eq_true rfl) (fun hcl hal => ?_)
 refine zw3 ?_
 refine AWp_seq ?_
 refine zw3 ?_
 refine AWp_cond rfl (fun h1 => ?_) (fun h1 => ?_)
 ·(try rw [h1]); replace h1 := zcl h1
  refine zw4 ?_
  refine AWp_boxLeO 0 (bs' := [.int .i64 vz.kind, .bool vz.b, .bool vz.n.neg, .str vz.n.digits, .int .i64 vz.n.exp, .str vz.s, .sl false 8 (lcells vz.l), .sl false 9 (mcells vz.m)]) rfl ⟨AVle.refl _, AVle.refl _, AVle.refl _, AVle.refl _, AVle.refl _, AVle.refl _, nilL, nilM, trivial⟩ ?_
  refine zrt ?_
  have hE : rParse s = (vz, 5, 20000) := by unfold rParse; rw [if_pos (by omega)]
  rw [hE, vcells_eq]; exact RQ_ret (rkvs_cons (rkv_ck rfl rfl rfl) (rkvs_cons (rkv_t rfl) (rkvs_cons (rkv_t rfl) rfl))) hcl (by simp [rks, AV.lt, AV.ltL, ofConst1, ncells]) ⟨rfl, rfl⟩
 ·(try rw [h1]); replace h1 := zcl h1
  refine AWp_skip ?_
  refine zw4 ?_
  refine zu1 ?_
  refine zt rfl (zc rfl (callO 1 (rpar_c s hs (σ.length + 1) _ (by rw [get_ownT rfl]; rfl)))) ?_
  rw [vcells_eq (rpar s).1]
  refine zv2 ?_
  refine AWp_join (ι := Unit) (fun b => True) (fun b => ⟨[], [(0, .str s), (2, .ptr (σ.length + 0) 0), (5, .ptr (σ.length + 1) 0), (6, .ptr (σ.length + 2) 0)]⟩) (fun b => σ ++ [.box [.int .i64 0, .bool false, .bool false, .str e0, .int .i64 0, .str e0, .nils, .nils], rbox s (rparE s), .box [.int .i64 (rpar s).1.kind, .bool (rpar s).1.b, .bool (rpar s).1.n.neg, .str (rpar s).1.n.digits, .int .i64 (rpar s).1.n.exp, .str (rpar s).1.s, .sl false 8 (lcells (rpar s).1.l), .sl false 9 (mcells (rpar s).1.m)]]) ?_ (fun b hj => ?_)
  ·skip
   refine zu6 ?_
   refine zsp 21 rfl (fun h2 => ?_) fun h2 => ?_
   ·rw [h2]; replace h2 := zcl h2
    refine zv8 ?_
    refine AWp_cond rfl (fun h3 => ?_) (fun h3 => ?_)
    ·(try rw [h3]); replace h3 := zcl h3
     refine AWp_regL ?_
     refine zg5 ?_
     refine zt rfl (zc rfl (callO 1 (fail_r s (rpar s).2 (σ.length + 1) _ (by rw [get_ownT rfl]; rfl) ((rpar s).2.a : Int) 1))) ?_
     refine zon ?_
     refine ⟨(), trivial, ⟨rfl, rfl, rfl, rfl, rfl, trivial⟩, ?_⟩
     unfold rparE; first | (rw [if_pos ⟨by omega, by omega⟩]; rfl) | (rw [if_neg (by omega)]; rfl)
    ·(try rw [h3]); replace h3 := zcl h3
     refine AWp_skip ?_
     refine ⟨(), trivial, ⟨rfl, rfl, rfl, rfl, rfl, trivial⟩, ?_⟩
     unfold rparE; first | (rw [if_pos ⟨by omega, by omega⟩]; rfl) | (rw [if_neg (by omega)]; rfl)
   ·rw [h2]; replace h2 := zcl h2
    refine zv8 ?_
    refine AWp_condF rfl ?_
    refine AWp_skip ?_
    refine ⟨(), trivial, ⟨rfl, rfl, rfl, rfl, rfl, trivial⟩, ?_⟩
    unfold rparE; first | (rw [if_pos ⟨by omega, by omega⟩]; rfl) | (rw [if_neg (by omega)]; rfl)
  ·skip
   refine AWp_seq ?_
   refine zw5 ?_
   refine AWp_cond rfl (fun h4 => ?_) (fun h4 => ?_)
   ·(try rw [h4]); replace h4 := zcl h4
    refine AWp_seq ?_
    refine AWp_drawL #[0, 0, 2, 6, 14, 0, 32, 96, 224, 1, 543, 2047] Tryz.mixed (by decide +kernel) (by decide +kernel) ?_
    refine zd4 ?_
    refine zp1 ?_
    refine zd3 ?_
    refine zp1 ?_
    refine yEN rfl rfl rfl (zoa) (⟨.inr (op_load1 rfl Tryz.isAgg3 (ldv_own rfl rfl)), ⟨.inr (op_load1 rfl Tryz.isAgg3 (ldv_own rfl rfl)), trivial⟩⟩) (trivial) ?_
    refine zd2 ?_
    refine RP.nil rfl ?_
    refine AWp_boxLeO 0 (bs' := [.int .i64 vz.kind, .bool vz.b, .bool vz.n.neg, .str vz.n.digits, .int .i64 vz.n.exp, .str vz.s, .sl false 8 (lcells vz.l), .sl false 9 (mcells vz.m)]) rfl ⟨AVle.refl _, AVle.refl _, AVle.refl _, AVle.refl _, AVle.refl _, AVle.refl _, nilL, nilM, trivial⟩ ?_
    refine zrt ?_
    have hE : rParse s = (vz, (rparE s).bad, (rparE s).spot) := by unfold rParse; rw [if_neg (by omega), if_neg (by assumption)]
    rw [hE, vcells_eq]; exact RQ_ret (rkvs_cons (rkv_ck rfl rfl rfl) (rkvs_cons (rkv_t rfl) (rkvs_cons (rkv_t rfl) rfl))) hcl (by simp [rks, AV.lt, AV.ltL, ofConst1, ncells]) ⟨rfl, rfl⟩
   ·(try rw [h4]); replace h4 := zcl h4
    refine AWp_skip ?_
    refine zw4 ?_
    refine zrt ?_
    have hE : rParse s = ((rpar s).1, 0, 0) := by unfold rParse; rw [if_neg (by omega), if_pos (by assumption)]
    rw [hE, vcells_eq]; exact RQ_ret (rkvs_cons (rkv_ck rfl rfl rfl) (rkvs_cons (rkv_t rfl) (rkvs_cons (rkv_t rfl) rfl))) hcl (by simp [rks, AV.lt, AV.ltL, ofConst1, ncells]) ⟨rfl, rfl⟩

theorem value_c (s : ByteArray) (σ : List AO) : ACalls Tryz.prog 15 [.str s] σ (Ret (.tup [.agg (vcells (rValue s).1), .int .i64 (rValue s).2]) σ) := by
 refine ACalls_bodyC Tryz.func15 rfl Tryz.ntmps15 (by rw [Tryz.results15]; exact (.ck Tryz.isAgg28 Tryz.sizeOf28 (.t .nil))) (Nat.le_of_ble_eq_true rfl) (fun hcl hal => ?_)
 refine zw2 ?_
 refine AWp_seq ?_
 refine zw3 ?_
 refine AWp_cond rfl (fun h1 => ?_) (fun h1 => ?_)
 ·(try rw [h1]); replace h1 := zcl h1
  refine zw3 ?_
  refine AWp_boxLeO 0 (bs' := [.int .i64 vz.kind, .bool vz.b, .bool vz.n.neg, .str vz.n.digits, .int .i64 vz.n.exp, .str vz.s, .sl false 8 (lcells vz.l), .sl false 9 (mcells vz.m)]) rfl ⟨AVle.refl _, AVle.refl _, AVle.refl _, AVle.refl _, AVle.refl _, AVle.refl _, nilL, nilM, trivial⟩ ?_
  refine zrt ?_
  have hE : rValue s = (vz, 0) := by unfold rValue; rw [if_pos (by omega)]
  rw [hE, vcells_eq]; exact RQ_ret (rkvs_cons (rkv_ck rfl rfl rfl) (rkvs_cons (rkv_t rfl) rfl)) hcl (by simp [rks, AV.lt, AV.ltL, ofConst1, ncells]) ⟨rfl, rfl⟩
 ·(try rw [h1]); replace h1 := zcl h1
  refine AWp_skip ?_
  refine zu1 ?_
  refine zt rfl (zc rfl (parse_c s _ (by omega))) ?_
  rw [vcells_eq (rParse s).1]
  refine zv8 ?_
  refine AWp_seq ?_
  refine zw2 ?_
  refine AWp_cond rfl (fun h2 => ?_) (fun h2 => ?_)
  ·(try rw [h2]); replace h2 := zcl h2
   refine zw3 ?_
   refine AWp_boxLeO 0 (bs' := [.int .i64 vz.kind, .bool vz.b, .bool vz.n.neg, .str vz.n.digits, .int .i64 vz.n.exp, .str vz.s, .sl false 8 (lcells vz.l), .sl false 9 (mcells vz.m)]) rfl ⟨AVle.refl _, AVle.refl _, AVle.refl _, AVle.refl _, AVle.refl _, AVle.refl _, nilL, nilM, trivial⟩ ?_
   refine zrt ?_
   have hE : rValue s = (vz, 0) := by unfold rValue; rw [if_neg (by omega), if_neg (by assumption)]
   rw [hE, vcells_eq]; exact RQ_ret (rkvs_cons (rkv_ck rfl rfl rfl) (rkvs_cons (rkv_t rfl) rfl)) hcl (by simp [rks, AV.lt, AV.ltL, ofConst1, ncells]) ⟨rfl, rfl⟩
  ·(try rw [h2]); replace h2 := zcl h2
   refine AWp_skip ?_
   refine zw3 ?_
   refine zrt ?_
   have hE : rValue s = ((rParse s).1, 1) := by unfold rValue; rw [if_neg (by omega), if_pos (by assumption)]
   rw [hE, vcells_eq]; exact RQ_ret (rkvs_cons (rkv_ck rfl rfl rfl) (rkvs_cons (rkv_t rfl) rfl)) hcl (by simp [rks, AV.lt, AV.ltL, ofConst1, ncells]) ⟨rfl, rfl⟩
end Lg
set_option maxRecDepth 20000
set_option maxHeartbeats 4000000
namespace Lg
open Go Go.Proofs Go.RowKit
variable [GLay] [S10]
theorem rschema_c (s : ByteArray) (σ : List AO) (hs : s.size ≤ 5000) : ACalls Tryz.prog 44 [.str s] σ (Ret (.tup [.sl false 4 (noder (rSch s).1), .int .i64 (rSch s).2.1, .int .i64 (rSch s).2.2]) σ) := by
 refine ACalls_body Tryz.func44 rfl Tryz.ntmps44 (res3 Tryz.results44) (Nat.le_of_ble_eq_true rfl) (fun hcl hal => ?_)
 have hpo := rParse_ok s
 have hrs := rSch.eq_1 s
 refine zw3 ?_
 refine zu1 ?_
 refine zt rfl (zc rfl (parse_c s _ (by omega))) ?_
 generalize rParse s = z at hpo hrs ⊢
 rw [vcells_eq z.1]
 refine zv8 ?_
 refine AWp_seq ?_
 refine zw2 ?_
 refine AWp_cond rfl (fun h1 => ?_) (fun h1 => ?_)
 ·(try rw [h1]); replace h1 := zcl h1
  refine zw5 ?_
  refine AWp_slotLe 2 rfl (AVle.nils false 4) ?_ (by decide)
  refine zrt ?_
  rw [if_pos (by simpa using h1)] at hrs
  rw [hrs]
  exact ResQ_3 rfl rfl rfl hcl (by simp [AV.lt, AV.ltL, AV.ltLL]) ⟨rfl, rfl⟩
 ·(try rw [h1]); replace h1 := zcl h1
  obtain ⟨hjm, hjb, hjs, hsz⟩ := hpo (by simpa using h1)
  refine AWp_skip ?_
  refine zu1 ?_
  refine zt rfl (zc rfl (rcomp_c z.1 _ _ (vcells_eq _) hjb (by omega))) ?_
  refine zv7 ?_
  refine AWp_seq ?_
  refine zw2 ?_
  refine AWp_cond rfl (fun h2 => ?_) (fun h2 => ?_)
  ·(try rw [h2]); replace h2 := zcl h2
   refine zw4 ?_
   refine AWp_slotLe 2 rfl (AVle.nils false 4) ?_ (by decide)
   refine zrt ?_
   rw [if_neg (by simpa using h1), if_pos (by simpa using h2)] at hrs
   rw [hrs]
   exact ResQ_3 rfl rfl rfl hcl (by simp [AV.lt, AV.ltL, AV.ltLL]) ⟨rfl, rfl⟩
  ·(try rw [h2]); replace h2 := zcl h2
   have hok := jcomp_ok hjb (may_st hjm) (by omega) (by simpa using h2)
   refine AWp_skip ?_
   refine zu1 ?_
   refine zt rfl (zc rfl (rlink_c false (jcomp z.1).1 _ _ rfl hok)) ?_
   refine zv7 ?_
   refine zw5 ?_
   refine zrt ?_
   rw [if_neg (by simpa using h1), if_neg (by simpa using h2)] at hrs
   rw [hrs]
   exact ResQ_3 rfl rfl rfl hcl (by simp [AV.lt, AV.ltL]) ⟨rfl, rfl⟩

theorem nodes_c (s : ByteArray) (σ : List AO) : ACalls Tryz.prog 19 [.str s] σ (Ret (.tup [.sl false 4 (noder (rNodes s).1), .int .i64 (rNodes s).2]) σ) := by
 refine ACalls_body Tryz.func19 rfl Tryz.ntmps19 (res2 Tryz.results19) (Nat.le_of_ble_eq_true rfl) (fun hcl hal => ?_)
 have hrn := rNodes.eq_1 s
 refine zw2 ?_
 refine AWp_seq ?_
 refine zw3 ?_
 refine AWp_cond rfl (fun h1 => ?_) (fun h1 => ?_)
 ·(try rw [h1]); replace h1 := zcl h1
  refine zw2 ?_
  refine AWp_slotLe 2 rfl (AVle.nils false 4) ?_ (by decide)
  refine zrt ?_
  rw [if_pos (by omega)] at hrn
  rw [hrn]
  exact ResQ_20 rfl rfl hcl (by simp [AV.lt, AV.ltL, AV.ltLL]) ⟨rfl, rfl⟩
 ·(try rw [h1]); replace h1 := zcl h1
  refine AWp_skip ?_
  refine zu1 ?_
  refine zt rfl (zc rfl (rschema_c s _ (by omega))) ?_
  refine zv7 ?_
  refine AWp_seq ?_
  refine zw2 ?_
  refine AWp_cond rfl (fun h2 => ?_) (fun h2 => ?_)
  ·(try rw [h2]); replace h2 := zcl h2
   refine zw2 ?_
   refine AWp_slotLe 2 rfl (AVle.nils false 4) ?_ (by decide)
   refine zrt ?_
   rw [if_neg (by omega), if_pos (by simpa using h2)] at hrn
   rw [hrn]
   exact ResQ_20 rfl rfl hcl (by simp [AV.lt, AV.ltL, AV.ltLL]) ⟨rfl, rfl⟩
  ·(try rw [h2]); replace h2 := zcl h2
   refine AWp_skip ?_
   refine zw3 ?_
   refine zrt ?_
   rw [if_neg (by omega), if_neg (by simpa using h2)] at hrn
   rw [hrn]
   exact ResQ_20 rfl rfl hcl (by simp [AV.lt, AV.ltL]) ⟨rfl, rfl⟩
end Lg
set_option maxRecDepth 20000
set_option maxHeartbeats 4000000
namespace Go.Proofs
open Go.Shelf
def Tryz.laysM143_ren : Go.Shelf.Ren := ⟨fun | 143 => 188 | 219 => 216 | 217 => 235 | 225 => 236 | 224 => 237 | 267 => 238 | 266 => 249 | 314 => 250 | n => n, fun | 9 => 9 | 3 => 3 | 4 => 4 | 5 => 5 | 46 => 235 | 146 => 294 | 51 => 284 | n => n, fun | 1 => 1 | n => n⟩
theorem Tryz.laysM143 : Go.Proofs.LaysM.n143 Tryz.prog Tryz.laysM143_ren := {
  mixed := by kernel_rfl, f143 := Tryz.func188.trans (congrArg some (by kernel_rfl)), f217 := Tryz.func235.trans (congrArg some (by kernel_rfl)), f219 := Tryz.func216.trans (congrArg some (by kernel_rfl)), f224 := Tryz.func237.trans (congrArg some (by kernel_rfl)), f225 := Tryz.func236.trans (congrArg some (by kernel_rfl)), f266 := Tryz.func249.trans (congrArg some (by kernel_rfl)), f267 := Tryz.func238.trans (congrArg some (by kernel_rfl)), f314 := Tryz.func250.trans (congrArg some (by kernel_rfl)), t3 := Tryz.underlying3, a3 := Tryz.isAgg3, z3 := Tryz.sizeOf3, v3 := Tryz.zeroValue3, t4 := Tryz.underlying4, a4 := Tryz.isAgg4, z4 := Tryz.sizeOf4, v4 := Tryz.zeroValue4, t5 := Tryz.underlying5, a5 := Tryz.isAgg5, z5 := Tryz.sizeOf5, v5 := Tryz.zeroValue5, t9 := Tryz.underlying9, a9 := Tryz.isAgg9, z9 := Tryz.sizeOf9, v9 := Tryz.zeroValue9, t46 := Tryz.underlying235, a46 := Tryz.isAgg235, z46 := Tryz.sizeOf235, v46 := Tryz.zeroValue235, t51 := Tryz.underlying284, a51 := Tryz.isAgg284, z51 := Tryz.sizeOf284, v51 := Tryz.zeroValue284, t146 := Tryz.underlying294, a146 := Tryz.isAgg294, z146 := Tryz.sizeOf294, v146 := Tryz.zeroValue294, g1 := by kernel_rfl, i3 := by kernel_rfl, i4 := by kernel_rfl, i5 := by kernel_rfl, i9 := by kernel_rfl, i46 := by kernel_rfl, i51 := by kernel_rfl, i146 := by kernel_rfl, m1 := by kernel_rfl, s1_3 := fun w h => Go.Proofs.cell_of_shapedOpen_int (zero := #[.int .i64 0]) (t := 3) h (of_decide_eq_true (by kernel_rfl)) (by kernel_rfl) rfl (by kernel_rfl) (by kernel_rfl) Tryz.underlying3 }
end Go.Proofs
namespace Lg
open Go Go.Proofs Go.RowKit
class ML [GLay] : Prop where
  cell : ∃ m, ∀ w : World, Laid w → w.cell? ⟨1, 0, none⟩ = some (.int .i64 m)
section
variable [GLay] [ML]
end
theorem cell_heap0 [g : GLay] {W w : World} (hg : ∀ b, g.f b = W.heap[b]?) (hw : Laid w) {b c : Nat} {v : Value} (h : W.cell? ⟨b, c, none⟩ = some v) : w.cell? ⟨b, c, none⟩ = some v := by
  cases hb : W.heap[b]? with
  | none => simp [World.cell?, hb] at h
  | some o => rw [← h]; simp only [World.cell?, hb, hw b o ((hg b).trans hb)]
theorem ML.of [g : GLay] {W : World} (hS : W.ShapedOpen Tryz.prog) (hg : ∀ b, g.f b = W.heap[b]?) : ML := by
  obtain ⟨m, hm⟩ := Tryz.laysM143.s1_3 W hS
  exact ⟨m, fun w hw => cell_heap0 hg hw hm⟩
end Lg
set_option maxRecDepth 20000
set_option maxHeartbeats 4000000
namespace Lg
open Go Go.Proofs Go.RowKit
variable [GLay] [ML]
theorem names_c (f g : Bool) (a b : List BL) (σ : List AO) (hl : a.length ≤ 100000000) (hl2 : b.length ≤ 100000000) : ACalls Tryz.prog 20 [.sl f 1 (srow a), .sl g 1 (srow b)] σ (Ret (.int .i64 (bif pb (a = b) then 1 else 0)) σ) := by
 refine ACalls_body Tryz.func20 rfl Tryz.ntmps20 (res1 Tryz.results20) (Nat.le_of_ble_eq_true rfl) (fun hcl hal => ?_)
 have hra := srow_len a
 have hrb := srow_len b
 refine zw1 ?_
 refine AWp_seq ?_
 refine zw5 ?_
 refine AWp_cond rfl (fun h1 => ?_) (fun h1 => ?_)
 ·(try rw [h1]); replace h1 := zcl h1
  refine zw1 ?_
  refine zrt ?_
  exact ResQ_10 rfl hcl trivial (Ret_of (by rw [pb_f (fun h => h1 (by rw [h]))]; rfl))
 ·(try rw [h1]); replace h1 := zcl h1
  refine AWp_skip ?_
  refine AWp_seq ?_
  refine zw1 ?_
  refine AWp_block ?_
  -- loop 0 LIVE 0:param 1:param 4:assign 5:assign
  refine AWp_loop (ι := Nat) (fun i => i ≤ a.length ∧ ∀ (j : Nat), j < i → a[j]? = b[j]?) (fun i => ⟨[], [(0, .sl f 1 (srow a)), (1, .sl g 1 (srow b)), (5, .int .i64 (i : Int))]⟩) (fun i => σ) (fun i => a.length - i) (0) (⟨Nat.zero_le _, fun j h => absurd h (by omega)⟩) ?_ rfl (fun i hi => ?_)
  ·exact ⟨rfl, rfl, rfl, rfl, trivial⟩
  obtain ⟨hi1, hi2⟩ := hi
  refine AWp_seq ?_
  refine zw4 ?_
  refine AWp_cond rfl (fun h2 => ?_) (fun h2 => ?_)
  ·(try rw [h2]); replace h2 := zcl h2
   obtain ⟨x, hx⟩ : ∃ x, a[i]? = some x := ⟨_, List.getElem?_eq_getElem (show i < a.length by omega)⟩
   obtain ⟨y, hy⟩ : ∃ y, b[i]? = some y := ⟨_, List.getElem?_eq_getElem (show i < b.length by omega)⟩
   have hxr := srow_get hx
   have hyr := srow_get hy
   refine AWp_skip ?_
   refine AWp_seq ?_
   refine AWp_block ?_
   refine AWp_seq ?_
   refine AWp_drawL #[0, 0, 3, 7, 0, 0, 48, 112, 255] Tryz.mixed (by decide +kernel) (by decide +kernel) ?_
   refine zd2 ?_
   refine yA rfl rfl (fun _ => op_indexAddr rfl Tryz.underlying48 Tryz.sizeOf9 rfl rfl (by omega) (hxr)) ?_
   refine zp1 ?_
   refine zd2 ?_
   refine yA rfl rfl (fun _ => op_indexAddr rfl Tryz.underlying48 Tryz.sizeOf9 rfl rfl (by omega) (hyr)) ?_
   refine zp1 ?_
   refine zd1 ?_
   refine RP.nil rfl ?_
   refine AWp_cond rfl (fun h3 => ?_) (fun h3 => ?_)
   ·(try rw [h3]); replace h3 := zcl h3
    refine zw1 ?_
    refine zrt ?_
    exact ResQ_10 rfl hcl trivial (Ret_of (by rw [pb_f (fun h => h3 (by rw [h, hy] at hx; cases hx; rfl))]; rfl))
   ·(try rw [h3]); replace h3 := zcl h3
    refine AWp_skip ?_
    refine AWp_regL ?_
    refine zv3 ?_
    refine ⟨i + 1, σ.length, ⟨by omega, fun j hj => ?_⟩, by omega, Nat.le_refl _, ⟨rfl, rfl, rfl, rfl, trivial⟩, hcl, ?_, List.take_length⟩
    ·by_cases e : j = i
     ·subst e; rw [hx, hy, ba_inj.1 h3]
     ·exact hi2 j (by omega)
    ·simp [ltE, AV.lt]
  ·(try rw [h2]); replace h2 := zcl h2
   refine AWp_exit ?_
   refine zw1 ?_
   refine zrt ?_
   have hab : a = b := List.ext_getElem? fun j => by by_cases hj : j < i; exact hi2 j hj; rw [List.getElem?_eq_none (by omega), List.getElem?_eq_none (by omega)]
   exact ResQ_10 rfl hcl trivial (Ret_of (by rw [pb_t hab]; rfl))
end Lg
namespace Lg
open Go
section
variable {f : Nat → List Bool → Bool × List Bool} {i : Nat} {S : List Bool}
end
end Lg
namespace Lg
open Go
structure RW (l : List JNode) (rows : List (List AV)) : Prop where
  len : rows.length = l.length
  el : ∀ r ∈ rows, r.length = 4
  get : ∀ (j : Nat) n, l[j]? = some n → ∃ K, AV.one K = true ∧ rows[j]? = some [.str n.path, .bool n.all, .bool n.pass, K]
section
variable [GLay]
end
end Lg
namespace Lg
open Go Go.RowKit
section
variable [GLay] {P : Program} {N : Nat} {σ l : List AO} {e : Env} {Q : QA}
end
end Lg
namespace Lg
open Go
section
variable [GLay]
def hdr (n : JNode) (K : AV) : List AV := [.str n.path, .bool n.all, .bool n.pass, K]
def hd3 (n : JNode) : ByteArray × Bool × Bool := (n.path, n.all, n.pass)
end
end Lg
namespace Lg
open Go
abbrev PF := ByteArray → JV → Nat → List JNode × Int × ByteArray
structure SameN (f : ByteArray → JV → MS → MS) (g : PF) : Prop where
  bad : ∀ p x m, ¬ m.bad = 0 → f p x m = m
  ok : ∀ p x m, jmay x → m.bad = 0 → (g p x m.l.length).2.1 = 0 → (f p x m).bad = 0 ∧ (f p x m).l = m.l ++ (g p x m.l.length).1
  no : ∀ p x m, jmay x → m.bad = 0 → ¬ (g p x m.l.length).2.1 = 0 → (f p x m).bad = (g p x m.l.length).2.1 ∧ (f p x m).path = (g p x m.l.length).2.2
section
variable {f : ByteArray → JV → MS → MS} {g : PF}
end
section
variable [GLay]
def hd4 (p : ByteArray) (a b : Bool) (K : AV) : List AV := [.str p, .bool a, .bool b, K]
end
end Lg
namespace Lg
open Go
def one11 : JNode := ⟨e0, true, true, []⟩
section
variable [GLay]
end
end Lg
set_option maxRecDepth 20000
set_option maxHeartbeats 4000000
namespace Lg
open Go Go.Proofs Go.RowKit
variable [GLay] [S10] [ML]
theorem namesN_c (f g : Bool) (l : List ByteArray) (σ : List AO) (hl : l.length ≤ 2000000) : ACalls Tryz.prog 20 [.sl f 1 (nrow l), .sl g 1 (nrow l)] σ (Ret (.int .i64 1) σ) := by
  have h := names_c f g (l.map nml) (l.map nml) σ (by rw [List.length_map]; omega) (by rw [List.length_map]; omega)
  rw [pb_t rfl, ← nrow_srow] at h
  exact h
theorem ownT_c (v : JV) (c2 : List AV) (σ : List AO) (h2c : vcells v = c2) (hvj : jb v) (hvm : jmay v) : ACalls Tryz.prog 21 [.agg [.str e0, .bool true, .bool true, .nils], .agg c2] σ (Ret (.sl false 1 []) σ) := by
  have h := own_c one11 v _ c2 σ rfl h2c (fun k hk => by cases hk) ⟨by decide, fun k hk => by cases hk⟩ hvj hvm
  rw [show jown one11 v = [] by unfold jown; rw [if_neg (by simp [one11])]; rfl] at h
  exact ACalls.conv (args' := [.agg (nodec one11), .agg c2]) ⟨AVle.agg ⟨AVle.refl _, AVle.refl _, AVle.refl _, AVle.nils false 10, trivial⟩, AVle.refl _, trivial⟩ h
theorem up14_c (σ : List AO) : ACalls Tryz.prog 18 [] σ (Ret (.bool true) σ) := by
 refine ACalls_body Tryz.func18 rfl Tryz.ntmps18 (res1 Tryz.results18) (Nat.le_of_ble_eq_true rfl) (fun hcl hal => ?_)
 obtain ⟨b, x, hN, hxm, hxb, hxs, hown⟩ := ex14_c
 have hpo := rParse_ok ex1v ex1v_0
 have hn0 : (noder [(⟨e0, false, b, [⟨wMIN, x, []⟩]⟩ : JNode)])[0]? = some (nodec (⟨e0, false, b, [⟨wMIN, x, []⟩]⟩ : JNode)) := rfl
 refine zw1 ?_
 refine zsr ?_
 refine zt rfl (zc rfl (nodes_c ex14 _)) ?_
 rw [hN]
 refine zv5 ?_
 refine zsr ?_
 refine zt rfl (zc rfl (value_c ex1v _)) ?_
 rw [ex1v_v, vcells_eq (rParse ex1v).1]
 refine zv6 ?_
 refine AWp_seq ?_
 refine zu1 ?_
 refine zt rfl (op_eqlF rfl rfl rfl (by show ¬ (1 : Int) = 0; decide)) ?_
 refine zg2 ?_
 refine ztG rfl rfl (op_eqlF rfl rfl rfl (by decide)) ?_
 refine zg4 ?_
 refine ztG rfl rfl (op_neqF rfl rfl rfl rfl) ?_
 refine zv1 ?_
 refine AWp_condF rfl ?_
 refine AWp_skip ?_
 refine AWp_seq ?_
 refine AWp_drawL #[0, 1, 3, 0, 15, 0, 63, 127, 255, 511, 511, 2047, 4095, 8191, 16383, 32767] Tryz.mixed (by decide +kernel) (by decide +kernel) ?_
 refine zd2 ?_
 refine zp2 ?_
 refine yP rfl rfl (zc rfl (own_c (⟨e0, false, b, [⟨wMIN, x, []⟩]⟩ : JNode) (rParse ex1v).1 _ _ _ rfl (vcells_eq _) (fun k hk => by rw [List.mem_singleton.1 hk]; exact ⟨hxs, hxm⟩) ⟨by show 1 ≤ 1000000; decide, fun k hk => by rw [List.mem_singleton.1 hk]; exact ⟨by show wMIN.size ≤ 1000000; decide, hxb, by show 0 ≤ 1000000; decide⟩⟩ hpo.2.1 hpo.1)) (trivial) ?_
 rw [hown]
 refine yA rfl rfl (fun _ => op_buildSlice [[_]] rfl Tryz.underlying48 Tryz.sizeOf9 Tryz.zeroValue9 rfl (by decide) (by decide) rfl rfl rfl rfl rfl) ?_
 refine yP rfl rfl (zc rfl (namesN_c false true [wMIN] _ (by decide))) (trivial) ?_
 refine yA rfl rfl (fun _ => op_eqlT rfl rfl rfl rfl) ?_
 refine zd2 ?_
 refine zp1 ?_
 refine yPG rfl rfl rfl (zc rfl (ownT_c (rParse ex1v).1 _ _ (vcells_eq _) hpo.2.1 hpo.1)) (trivial) ?_
 refine zd1 ?_
 refine yAG rfl rfl rfl (fun _ => op_eqlT rfl rfl rfl rfl) ?_
 refine zd2 ?_
 refine RP.nil rfl ?_
 refine zrt ?_
 exact ResQ_1 rfl hcl trivial (Ret_of rfl)
end Lg
set_option maxRecDepth 20000
set_option maxHeartbeats 4000000
namespace Lg
open Go Go.Proofs Go.RowKit
variable [GLay] [S10] [ML]
theorem checkTells_c (s t : ByteArray) (σ : List AO) : ACalls Tryz.prog 5 [.str s, .str t] σ (Ret (.bool true) σ) := by
 refine ACalls_body Tryz.func5 rfl Tryz.ntmps5 (res1 Tryz.results5) (Nat.le_of_ble_eq_true rfl) (fun hcl hal => ?_)
 refine zw1 ?_
 refine zsr ?_
 refine zt rfl (zc rfl (up14_c _)) ?_
 refine zv1 ?_
 refine zu1 ?_
 refine zt rfl (zc rfl (nodes_c s _)) ?_
 have hno := rNodes_ok s
 generalize rNodes s = w at hno ⊢
 obtain ⟨l, ok⟩ := w
 dsimp only at hno ⊢
 refine zv5 ?_
 refine zu1 ?_
 refine zt rfl (zc rfl (value_c t _)) ?_
 have hva := rValue_ok t
 generalize rValue t = z at hva ⊢
 obtain ⟨v, is⟩ := z
 dsimp only at hva ⊢
 rw [vcells_eq v]
 refine zv6 ?_
 refine AWp_seq ?_
 refine zu3 ?_
 refine zsp 24 rfl (fun h1 => ?_) fun h1 => ?_
 ·rw [h1]; replace h1 := zcl h1
  refine zv3 ?_
  refine AWp_condT rfl ?_
  refine zw2 ?_
  refine zrt ?_
  exact ResQ_1 rfl hcl trivial (Ret_of rfl)
 ·rw [h1]; replace h1 := zcl h1
  replace hno := hno.resolve_left h1
  have hno := hno.2
  have hnl := noder_len l
  refine zv3 ?_
  refine AWp_cond rfl (fun h2 => ?_) (fun h2 => ?_)
  ·(try rw [h2]); replace h2 := zcl h2
   refine zw2 ?_
   refine zrt ?_
   exact ResQ_1 rfl hcl trivial (Ret_of rfl)
  ·(try rw [h2]); replace h2 := zcl h2
   obtain ⟨_, hvm, hvj, hvs⟩ := hva.resolve_left (fun z => h2 z.1)
   refine AWp_skip ?_
   refine AWp_seq ?_
   refine zw1 ?_
   refine AWp_block ?_
   -- loop 0 LIVE 4:assign 5:assign 6:assign 8:alloc 10:assign
   refine AWp_loop (ι := Nat) (fun i => i ≤ l.length) (fun i => ⟨[], [(4, .bool false), (5, .bool true), (6, .sl false 4 (noder l)), (8, .ptr (σ.length + 0) 0), (10, .int .i64 (i : Int))]⟩) (fun i => σ ++ [.box [.int .i64 v.kind, .bool v.b, .bool v.n.neg, .str v.n.digits, .int .i64 v.n.exp, .str v.s, .sl false 8 (lcells v.l), .sl false 9 (mcells v.m)]]) (fun i => l.length - i) (0) (Nat.zero_le _) ?_ rfl (fun i hi => ?_)
   ·exact ⟨rfl, rfl, rfl, rfl, rfl, rfl, trivial⟩
   refine AWp_seq ?_
   refine zw4 ?_
   refine AWp_cond rfl (fun h3 => ?_) (fun h3 => ?_)
   ·(try rw [h3]); replace h3 := zcl h3
    obtain ⟨n, hn⟩ : ∃ n, l[i]? = some n := ⟨_, List.getElem?_eq_getElem (show i < l.length by omega)⟩
    have hnm := List.mem_of_getElem? hn
    have hjo := jown_len (hno.2.2 n hnm) v
    refine AWp_skip ?_
    refine AWp_seq ?_
    refine AWp_block ?_
    refine AWp_seq ?_
    refine AWp_drawL #[0, 0, 3, 7, 0, 31, 0, 0, 192, 448, 0, 2047, 4095, 8191] Tryz.mixed (by decide +kernel) (by decide +kernel) ?_
    refine zd2 ?_
    refine yA rfl rfl (fun _ => op_indexAddr rfl Tryz.underlying31 Tryz.sizeOf47 rfl rfl (by omega) (noder_get hn)) ?_
    refine zp2 ?_
    refine yP rfl rfl (zc rfl (own_c n v _ _ _ rfl (vcells_eq v) (hno.1 n hnm) (hno.2.2 n hnm) hvj hvm)) (trivial) ?_
    refine zd2 ?_
    refine yA rfl rfl (fun _ => op_indexAddr rfl Tryz.underlying31 Tryz.sizeOf47 rfl rfl (by omega) (noder_get hn)) ?_
    refine zp2 ?_
    refine yP rfl rfl (zc rfl (rown_c n v _ _ _ rfl (vcells_eq v) (hno.1 n hnm) (hno.2.2 n hnm) hvj hvm)) (trivial) ?_
    refine yP rfl rfl (zc rfl (namesN_c false false (jown n v) _ (by omega))) (trivial) ?_
    refine yA rfl rfl (fun _ => op_eqlF rfl rfl rfl (by decide)) ?_
    refine RP.nil rfl ?_
    refine AWp_condF rfl ?_
    refine AWp_skip ?_
    refine AWp_regL ?_
    refine zv3 ?_
    refine ⟨i + 1, σ.length + 1, by omega, by omega, by simp, ⟨rfl, rfl, rfl, rfl, rfl, rfl, trivial⟩, closed_own 1 hcl (by simp [ownLt, AO.cells, AV.ltL, AV.lt]), ?_, take_own 1⟩
    ·simp [ltE, AV.lt, AV.ltL]
   ·(try rw [h3]); replace h3 := zcl h3
    refine AWp_exit ?_
    refine zw2 ?_
    refine zrt ?_
    exact ResQ_1 rfl hcl trivial (Ret_of rfl)
end Lg
set_option maxRecDepth 100000
set_option maxHeartbeats 4000000
namespace Go.Proofs.YtpcjccmmeaaeaaaGreatDoor
open Go Go.ChangeShapes Go.WideShapes Go.ChangeAt Go.RowKit Go.Lib
open Go.ChangeMaps (open_string shut_string)
noncomputable def checkTells_lw (os : Os) : World := World.laidAll Tryz.prog os Rows.checkTellsRow.laid
theorem checkTells_pl : (Rows.checkTellsRow.laid.all fun x => x.2.handleName?.isNone) = true := by kernel_rfl
theorem checkTells_mh (os : Os) (args : Array Value) : laidMetH Tryz.prog Rows.checkTellsRow.laid ((checkTells_lw os).forCall (fun _ _ => 0) ⟨#[], args, []⟩).memory := by
  rw [MakeChecks.laidMetH_plain _ _ _ checkTells_pl]; exact laidMet_laidAll _ (by kernel_rfl) (by kernel_rfl)
theorem checkTells_lifted (os : Os) (started : os.Started) (H : Type) (enc : TypeId × Value → H) :
    ReturnsInHanded {} Tryz.checked os 5 .any (fun w args => (Rows.checkTellsSpec.pre enc Tryz.prog Tryz.f5 [] false w args ∧ laidMetH Tryz.prog Rows.checkTellsRow.laid w) ∧ sizedMet enc Tryz.prog Tryz.f5 (OpenSpec.ofChange Rows.checkTellsSpec) false w args)
      (Rows.checkTellsSpec.post enc Tryz.prog Tryz.f5 false true false false) := by
  refine Lg.returns_and_shaped (C := Tryz.checked) (X := fun w _ => laidMetH Tryz.prog Rows.checkTellsRow.laid w) (fun _ _ _ hh h => h.of_heap hh) own started (by kernel_rfl) Tryz.func5
    (ChangeSpec.witness_shaped (enc := enc) (C := Tryz.checked) (os := os) (X := fun w _ => laidMetH Tryz.prog Rows.checkTellsRow.laid w) false (checkTells_lw os) #[.string ⟨#[]⟩, .string ⟨#[]⟩] 8 (World.laidAll_os _ _ _)
      (World.shaped_of_ZipB (by kernel_rfl) (by kernel_rfl)) (by kernel_rfl) (by kernel_rfl) (by kernel_rfl) (checkTells_mh os _)) ?_
  intro W base args ds gs before hval0 hW hL hS
  have hval : ∀ (j : Nat) t v, Tryz.f5.params[j]? = some t → args[j]? = some v → Value.okWide Tryz.prog W .any base t v := hval0
  have hW' := hW
  obtain ⟨p, q, hA0, hV, rfl, hfz, hnd⟩ := hW
  have hA : DataW.TrodAll enc Tryz.prog W 0 (fun _ => true) true Tryz.f5.params.toList args.toList ds p := hA0
  rw [Tryz.params5] at hA hval
  obtain ⟨v0, vs0, d0, ds0, p0, q0, hargs, rfl, rfl, h0, r0⟩ := trodAll_cons hA
  obtain ⟨v1, vs1, d1, ds1, p1, q1, rfl, rfl, rfl, h1, r1⟩ := trodAll_cons r0
  obtain ⟨rfl, rfl, rfl⟩ := trodAll_nil r1
  obtain rfl : args = #[v0, v1] := by cases args; simp_all
  obtain ⟨rfl, rfl⟩ := trodVars_none hV
  obtain ⟨x0, rfl, rfl, rfl, w0⟩ := open_string Tryz.underlying9 (hval 0 9 v0 rfl rfl) h0
  obtain ⟨x1, rfl, rfl, rfl, w1⟩ := open_string Tryz.underlying9 (hval 1 9 v1 rfl rfl) h1
  clear hA0 hval0
  simp only [List.append_nil] at hW'
  have hT_s10 := s10_of checkTells_pl hL (by kernel_rfl)
  have hcall := Lg.calls_of (P := Tryz.prog) (f := 5) (args := [.str x0, .str x1]) (cargs := [.string x0, .string x1]) (W := W)
    (fun st => (.cons (.str _) (.cons (.str _) .nil)))
    (fun hg => by haveI := Lg.ML.of hS hg; haveI := Lg.S10.of hT_s10 hg; exact Lg.checkTells_c x0 x1 [] )
  refine hcall.mono fun e W' ⟨he, hg⟩ => ?_
  subst he
  refine ⟨_, rfl, _, _, _, [], [], [], hW', trodAll_mk1 (shut_bool Tryz.underlying4 _), ?_, rfl, hg.frame _, fun h => by cases h⟩
  exact (trodAll_cons_mk (shut_string Tryz.underlying9 w0) (trodAll_cons_mk (shut_string Tryz.underlying9 w1) trodAll_mk0))
theorem checkTells_holds : Rows.CheckTellsSaid :=
  OpenClaim.holds_of_wide 5 Tryz.f5 rfl rfl rfl rfl rfl rfl rfl ⟨rfl, rfl, rfl, rfl, rfl⟩ rfl rfl rfl rfl rfl (by kernel_rfl) Tryz.func5 (by kernel_rfl)
    (of_decide_eq_true (by kernel_rfl)) (by unfold Func.isWrapper; first | (rw [if_pos (by decide +kernel)]; kernel_rfl) | (rw [if_neg (by decide +kernel)]; exact ⟨rfl, rfl⟩))
    (fun os started H enc _ => checkTells_lifted os started H enc)
end Go.Proofs.YtpcjccmmeaaeaaaGreatDoor
