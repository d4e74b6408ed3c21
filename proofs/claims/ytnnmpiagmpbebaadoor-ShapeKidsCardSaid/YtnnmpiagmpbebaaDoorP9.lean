/- A part of the proof of All schemas in a value that a name may have are Bools and Objects; a name that is no keyword may have none, whatever the value; a list of schemas may be allOf's just if it may be anyOf's and oneOf's.: W21 W22 K10 K11 VSk. -/
import Derived.Test.YtnnmpiagmpbebaaDoorP8
import Derived.Test.YtnnmpiagmpbebaaDoorP4
import Derived.Test.YtnnmpiagmpbebaaDoorP6
set_option linter.unusedVariables false
set_option linter.unusedSimpArgs false
set_option linter.unusedSectionVars false
set_option maxRecDepth 20000
set_option maxHeartbeats 4000000
namespace Lg
open Go Go.Proofs Go.RowKit
variable [GLay] 
theorem value_r (s : ByteArray) (hs : s.size ≤ 100000) : ∀ (n : Nat) (r : RS) (p : Nat) (σ : List AO), σ[p]? = some (rbox s r) → ROK s r → s.size + 1 < n + r.a → ACalls Tryd.prog 58 [.ptr p 0] σ (Ret (.agg (vcells (rval n s r).1)) (σ.set p (rbox s (rval n s r).2))) := by
 intro n
 induction n with
 | zero => intro r p σ hσ h hn; exfalso; have := h.a; omega
 | succ n ih =>
 intro r p σ hσ h hn
 have hp : p < σ.length := (List.getElem?_eq_some_iff.1 hσ).1
 have hb1 := rblank_to h
 have hta := hb1.a
 refine ACalls_bodyC Tryd.func58 rfl Tryd.ntmps58 (by rw [Tryd.results58]; exact (.ck Tryd.isAgg36 Tryd.sizeOf36 .nil)) (Nat.le_of_ble_eq_true rfl) (fun hcl hal => ?_)
 refine AWp_heap (set_same hσ) ?_
 refine zw1 ?_
 refine zw1 ?_
 refine zu1 ?_
 refine zt rfl (zc rfl (callSA hp (blank_r s r p _ (get_setA hp) hs h))) ?_
 refine zon ?_
 refine AWp_seq ?_
 have hres : rval (n + 1) s r = ((rone (rval n s) s (rblank s r)).1, rblank s (rone (rval n s) s (rblank s r)).2) := rfl
 generalize rblank s r = t at hb1 hta hres ⊢
 have htk := hb1.ok.a
 have htb := hb1.ok.b
 have hn2 : s.size + 1 < n + t.a + 1 := by omega
 refine AWp_regL ?_
 refine zg1 ?_
 refine zt rfl (zc rfl (peek_r s t p _ (get_setA hp))) ?_
 refine zv1 ?_
 refine AWp_join (ι := AV × AV × List AO) (fun z => AVle z.1 (.sl false 8 (lcells (rone (rval n s) s t).1.l)) ∧ AVle z.2.1 (.sl false 9 (mcells (rone (rval n s) s t).1.m))) (fun z => ⟨[], [(0, .ptr p 0), (2, .ptr (σ.length + 0) 0), (3, .ptr (σ.length + 1) 0)]⟩) (fun z => σ.set p (rbox s (rone (rval n s) s t).2) ++ ([.box [.int .i64 0, .bool false, .bool false, .str e0, .int .i64 0, .str e0, .nils, .nils], .box [.int .i64 (rone (rval n s) s t).1.kind, .bool (rone (rval n s) s t).1.b, .bool (rone (rval n s) s t).1.n.neg, .str (rone (rval n s) s t).1.n.digits, .int .i64 (rone (rval n s) s t).1.n.exp, .str (rone (rval n s) s t).1.s, z.1, z.2.1]] ++ z.2.2)) ?_ (fun z hj => ?_)
 ·skip
  refine zw2 ?_
  refine AWp_cond rfl (fun h1 => ?_) (fun h1 => ?_)
  ·(try rw [h1]); (try simp only [decide_eq_true_eq, decide_eq_false_iff_not, Bool.not_eq_true', Bool.not_eq_false', Int.not_lt, Int.not_le, Bool.not_true, Bool.not_false, Int.toNat_natCast, tn1, tn2, tnn, bne_iff_ne, beq_iff_eq, beq_eq_false_iff_ne, ne_eq, Decidable.not_not] at h1)
   have hpk := pk_yes (s := s) (a := t.a) (bad := t.bad) (by omega)
   refine AWp_regL ?_
   refine zg1 ?_
   refine zt rfl (zc rfl (callSA hp (object_r s n ih t p _ (get_setA hp) hs hb1.ok hpk.1 hpk.2.1 hn2))) ?_
   rw [vcells_eq (robj (rval n s) s t).1]
   refine zv1 ?_
   have hone : rone (rval n s) s t = robj (rval n s) s t := by unfold rone; rw [if_pos (by omega)]
   simp only [hone]
   exact ⟨(.sl false 8 (lcells (robj (rval n s) s t).1.l), .sl false 9 (mcells (robj (rval n s) s t).1.m), _), ⟨AVle.refl _, AVle.refl _⟩, ⟨rfl, rfl, rfl, rfl, trivial⟩, rfl⟩
  ·(try rw [h1]); (try simp only [decide_eq_true_eq, decide_eq_false_iff_not, Bool.not_eq_true', Bool.not_eq_false', Int.not_lt, Int.not_le, Bool.not_true, Bool.not_false, Int.toNat_natCast, tn1, tn2, tnn, bne_iff_ne, beq_iff_eq, beq_eq_false_iff_ne, ne_eq, Decidable.not_not] at h1)
   refine zw2 ?_
   refine AWp_cond rfl (fun h2 => ?_) (fun h2 => ?_)
   ·(try rw [h2]); (try simp only [decide_eq_true_eq, decide_eq_false_iff_not, Bool.not_eq_true', Bool.not_eq_false', Int.not_lt, Int.not_le, Bool.not_true, Bool.not_false, Int.toNat_natCast, tn1, tn2, tnn, bne_iff_ne, beq_iff_eq, beq_eq_false_iff_ne, ne_eq, Decidable.not_not] at h2)
    have hpk := pk_yes (s := s) (a := t.a) (bad := t.bad) (by omega)
    refine AWp_regL ?_
    refine zg1 ?_
    refine zt rfl (zc rfl (callSA hp (array_r s n ih t p _ (get_setA hp) hs hb1.ok hpk.1 hpk.2.1 hn2))) ?_
    rw [vcells_eq (rarr (rval n s) s t).1]
    refine zv1 ?_
    have hone : rone (rval n s) s t = rarr (rval n s) s t := by unfold rone; rw [if_neg (by omega), if_pos (by omega)]
    simp only [hone]
    exact ⟨(.sl false 8 (lcells (rarr (rval n s) s t).1.l), .sl false 9 (mcells (rarr (rval n s) s t).1.m), _), ⟨AVle.refl _, AVle.refl _⟩, ⟨rfl, rfl, rfl, rfl, trivial⟩, rfl⟩
   ·(try rw [h2]); (try simp only [decide_eq_true_eq, decide_eq_false_iff_not, Bool.not_eq_true', Bool.not_eq_false', Int.not_lt, Int.not_le, Bool.not_true, Bool.not_false, Int.toNat_natCast, tn1, tn2, tnn, bne_iff_ne, beq_iff_eq, beq_eq_false_iff_ne, ne_eq, Decidable.not_not] at h2)
    refine zw2 ?_
    refine AWp_cond rfl (fun h3 => ?_) (fun h3 => ?_)
    ·(try rw [h3]); (try simp only [decide_eq_true_eq, decide_eq_false_iff_not, Bool.not_eq_true', Bool.not_eq_false', Int.not_lt, Int.not_le, Bool.not_true, Bool.not_false, Int.toNat_natCast, tn1, tn2, tnn, bne_iff_ne, beq_iff_eq, beq_eq_false_iff_ne, ne_eq, Decidable.not_not] at h3)
     refine AWp_regL ?_
     refine zg1 ?_
     refine zt rfl (zc rfl (callSA hp (text_r s t p _ (get_setA hp) hs hb1.ok))) ?_
     refine zv2 ?_
     have hone : rone (rval n s) s t = (.mk 3 false {} (rtext s t).1 [] [], (rtext s t).2) := by unfold rone; rw [if_neg (by omega), if_neg (by omega), if_pos (by omega)]
     simp only [hone]
     exact ⟨(.nils, .nils, _), ⟨nilL, nilM⟩, ⟨rfl, rfl, rfl, rfl, trivial⟩, rfl⟩
    ·(try rw [h3]); (try simp only [decide_eq_true_eq, decide_eq_false_iff_not, Bool.not_eq_true', Bool.not_eq_false', Int.not_lt, Int.not_le, Bool.not_true, Bool.not_false, Int.toNat_natCast, tn1, tn2, tnn, bne_iff_ne, beq_iff_eq, beq_eq_false_iff_ne, ne_eq, Decidable.not_not] at h3)
     refine zw2 ?_
     refine AWp_cond rfl (fun h4 => ?_) (fun h4 => ?_)
     ·(try rw [h4]); (try simp only [decide_eq_true_eq, decide_eq_false_iff_not, Bool.not_eq_true', Bool.not_eq_false', Int.not_lt, Int.not_le, Bool.not_true, Bool.not_false, Int.toNat_natCast, tn1, tn2, tnn, bne_iff_ne, beq_iff_eq, beq_eq_false_iff_ne, ne_eq, Decidable.not_not] at h4)
      refine AWp_regL ?_
      refine zg1 ?_
      refine zt rfl (zc rfl (callSA hp (want_c lNull s t p _ (get_setA hp) hs (by decide) hb1.ok))) ?_
      refine zon ?_
      have hone : rone (rval n s) s t = (vz, rwant s lNull t) := by unfold rone; rw [if_neg (by omega), if_neg (by omega), if_neg (by omega), if_pos (by omega)]
      simp only [hone]
      exact ⟨(.nils, .nils, _), ⟨nilL, nilM⟩, ⟨rfl, rfl, rfl, rfl, trivial⟩, rfl⟩
     ·(try rw [h4]); (try simp only [decide_eq_true_eq, decide_eq_false_iff_not, Bool.not_eq_true', Bool.not_eq_false', Int.not_lt, Int.not_le, Bool.not_true, Bool.not_false, Int.toNat_natCast, tn1, tn2, tnn, bne_iff_ne, beq_iff_eq, beq_eq_false_iff_ne, ne_eq, Decidable.not_not] at h4)
      refine zw2 ?_
      refine AWp_cond rfl (fun h5 => ?_) (fun h5 => ?_)
      ·(try rw [h5]); (try simp only [decide_eq_true_eq, decide_eq_false_iff_not, Bool.not_eq_true', Bool.not_eq_false', Int.not_lt, Int.not_le, Bool.not_true, Bool.not_false, Int.toNat_natCast, tn1, tn2, tnn, bne_iff_ne, beq_iff_eq, beq_eq_false_iff_ne, ne_eq, Decidable.not_not] at h5)
       refine zu1 ?_
       refine zt rfl (zc rfl (callSA hp (want_c lTrue s t p _ (get_setA hp) hs (by decide) hb1.ok))) ?_
       refine zon ?_
       refine AWp_regL ?_
       refine zv2 ?_
       have hone : rone (rval n s) s t = (.mk 1 true {} e0 [] [], rwant s lTrue t) := by unfold rone; rw [if_neg (by omega), if_neg (by omega), if_neg (by omega), if_neg (by omega), if_pos (by omega)]
       simp only [hone]
       exact ⟨(.nils, .nils, _), ⟨nilL, nilM⟩, ⟨rfl, rfl, rfl, rfl, trivial⟩, rfl⟩
      ·(try rw [h5]); (try simp only [decide_eq_true_eq, decide_eq_false_iff_not, Bool.not_eq_true', Bool.not_eq_false', Int.not_lt, Int.not_le, Bool.not_true, Bool.not_false, Int.toNat_natCast, tn1, tn2, tnn, bne_iff_ne, beq_iff_eq, beq_eq_false_iff_ne, ne_eq, Decidable.not_not] at h5)
       refine zw2 ?_
       refine AWp_cond rfl (fun h6 => ?_) (fun h6 => ?_)
       ·(try rw [h6]); (try simp only [decide_eq_true_eq, decide_eq_false_iff_not, Bool.not_eq_true', Bool.not_eq_false', Int.not_lt, Int.not_le, Bool.not_true, Bool.not_false, Int.toNat_natCast, tn1, tn2, tnn, bne_iff_ne, beq_iff_eq, beq_eq_false_iff_ne, ne_eq, Decidable.not_not] at h6)
        refine zu1 ?_
        refine zt rfl (zc rfl (callSA hp (want_c lFalse s t p _ (get_setA hp) hs (by decide) hb1.ok))) ?_
        refine zon ?_
        refine AWp_regL ?_
        refine zv2 ?_
        have hone : rone (rval n s) s t = (.mk 1 false {} e0 [] [], rwant s lFalse t) := by unfold rone; rw [if_neg (by omega), if_neg (by omega), if_neg (by omega), if_neg (by omega), if_neg (by omega), if_pos (by omega)]
        simp only [hone]
        exact ⟨(.nils, .nils, _), ⟨nilL, nilM⟩, ⟨rfl, rfl, rfl, rfl, trivial⟩, rfl⟩
       ·(try rw [h6]); (try simp only [decide_eq_true_eq, decide_eq_false_iff_not, Bool.not_eq_true', Bool.not_eq_false', Int.not_lt, Int.not_le, Bool.not_true, Bool.not_false, Int.toNat_natCast, tn1, tn2, tnn, bne_iff_ne, beq_iff_eq, beq_eq_false_iff_ne, ne_eq, Decidable.not_not] at h6)
        refine zu3 ?_
        refine zsp 42 rfl (fun h7 => ?_) fun h7 => ?_
        ·rw [h7]; (try simp only [decide_eq_true_eq, decide_eq_false_iff_not, Bool.not_eq_true', Bool.not_eq_false', Int.not_lt, Int.not_le, Bool.not_true, Bool.not_false, Int.toNat_natCast, tn1, tn2, tnn, bne_iff_ne, beq_iff_eq, beq_eq_false_iff_ne, ne_eq, Decidable.not_not] at h7)
         refine zv7 ?_
         refine AWp_condT rfl ?_
         refine AWp_seq ?_
         have hpk := pk_yes (s := s) (a := t.a) (bad := t.bad) (by omega)
         have hel := rEnd_le (s := s) (a := t.a) (by omega)
         refine AWp_drawL #[0, 1, 3, 7, 0, 16, 48, 112, 255, 511, 1023, 1023, 2047, 8191] Tryd.mixed (by decide +kernel) (by decide +kernel) ?_
         refine zd3 ?_
         refine zp1 ?_
         refine zd3 ?_
         refine zp1 ?_
         refine yP rfl rfl (zc rfl (end_c s t.a _ (by omega) (by omega))) (trivial) ?_
         refine zd5 ?_
         refine RP.nil rfl ?_
         refine AWp_join (ι := RS) (fun y => y = (if (rEnd s t.a).2 = true then t else rfail t (rEnd s t.a).1 1) ∧ y.a = t.a ∧ y.deep = t.deep) (fun y => ⟨[], [(0, .ptr p 0), (2, .ptr (σ.length + 0) 0), (3, .ptr (σ.length + 1) 0), (5, .int .i64 ((rEnd s t.a).1 : Int))]⟩) (fun y => σ.set p (rbox s y) ++ [.box [.int .i64 0, .bool false, .bool false, .str e0, .int .i64 0, .str e0, .nils, .nils], .box [.int .i64 0, .bool false, .bool false, .str e0, .int .i64 0, .str e0, .nils, .nils]]) ?_ (fun y hj => ?_)
         ·skip
          refine zw2 ?_
          refine AWp_cond rfl (fun h8 => ?_) (fun h8 => ?_)
          ·(try rw [h8]); (try simp only [decide_eq_true_eq, decide_eq_false_iff_not, Bool.not_eq_true', Bool.not_eq_false', Int.not_lt, Int.not_le, Bool.not_true, Bool.not_false, Int.toNat_natCast, tn1, tn2, tnn, bne_iff_ne, beq_iff_eq, beq_eq_false_iff_ne, ne_eq, Decidable.not_not] at h8)
           refine AWp_regL ?_
           refine zg2 ?_
           refine zt rfl (zc rfl (callSA hp (fail_r s t p _ (get_setA hp) ((rEnd s t.a).1 : Int) 1))) ?_
           refine zon ?_
           first | exact ⟨rfail t (rEnd s t.a).1 1, ⟨by rw [if_neg (by simp [*])], rfl, rfl⟩, ⟨rfl, rfl, rfl, rfl, rfl, trivial⟩, rfl⟩ | exact ⟨t, ⟨by rw [if_pos (by simp [*])], rfl, rfl⟩, ⟨rfl, rfl, rfl, rfl, rfl, trivial⟩, rfl⟩
          ·(try rw [h8]); (try simp only [decide_eq_true_eq, decide_eq_false_iff_not, Bool.not_eq_true', Bool.not_eq_false', Int.not_lt, Int.not_le, Bool.not_true, Bool.not_false, Int.toNat_natCast, tn1, tn2, tnn, bne_iff_ne, beq_iff_eq, beq_eq_false_iff_ne, ne_eq, Decidable.not_not] at h8)
           refine AWp_skip ?_
           first | exact ⟨rfail t (rEnd s t.a).1 1, ⟨by rw [if_neg (by simp [*])], rfl, rfl⟩, ⟨rfl, rfl, rfl, rfl, rfl, trivial⟩, rfl⟩ | exact ⟨t, ⟨by rw [if_pos (by simp [*])], rfl, rfl⟩, ⟨rfl, rfl, rfl, rfl, rfl, trivial⟩, rfl⟩
         ·skip
          obtain ⟨hy1, hy2, hy3⟩ := hj
          refine AWp_seq ?_
          refine AWp_drawL #[0, 1, 3, 7, 0, 16, 48, 112, 0, 511, 1023, 2047, 4095, 4095, 0, 24575, 65535] Tryd.mixed (by decide +kernel) (by decide +kernel) ?_
          refine zd3 ?_
          refine zp1 ?_
          refine zd3 ?_
          refine zp1 ?_
          refine zd2 ?_
          simp only [Int.toNat_natCast, hy2]
          refine yP rfl rfl (zc rfl (rnum_c (s.extract t.a (rEnd s t.a).1) _ (by rw [ByteArray.size_extract]; omega))) (trivial) ?_
          refine zd3 ?_
          refine yE rfl rfl (zoa) (⟨.inr (op_callF rfl rfl rfl Tryd.func88 rfl rfl (rnum_c (s.extract t.a (rEnd s t.a).1) _ (by rw [ByteArray.size_extract]; omega))), ⟨.inr (op_load1 rfl Tryd.isAgg3 (ldv_setA hp (by rw [← hy2]; rfl))), ⟨.inr (op_load1 rfl Tryd.isAgg9 (ldv_setA hp rfl)), trivial⟩⟩⟩) (trivial) ?_
          refine yEN rfl rfl rfl (zoa) (⟨.inl rfl, ⟨.inl rfl, ⟨.inl rfl, trivial⟩⟩⟩) (⟨rfl, trivial⟩) ?_
          refine zd1 ?_
          refine RP.nil rfl ?_
          refine AWp_join (ι := RS) (fun x => x = (if (rNum (s.extract t.a (rEnd s t.a).1)).2 = 0 then (if (rEnd s t.a).2 = true then t else rfail t (rEnd s t.a).1 1) else rfail (if (rEnd s t.a).2 = true then t else rfail t (rEnd s t.a).1 1) t.a 5) ∧ x.a = t.a ∧ x.deep = t.deep) (fun x => ⟨[], [(0, .ptr p 0), (2, .ptr (σ.length + 0) 0), (3, .ptr (σ.length + 1) 0), (5, .int .i64 ((rEnd s t.a).1 : Int)), (7, .ptr (σ.length + 2) 0)]⟩) (fun x => σ.set p (rbox s x) ++ [.box [.int .i64 0, .bool false, .bool false, .str e0, .int .i64 0, .str e0, .nils, .nils], .box [.int .i64 0, .bool false, .bool false, .str e0, .int .i64 0, .str e0, .nils, .nils], .box (ncells (rNum (s.extract t.a (rEnd s t.a).1)).1)]) ?_ (fun x hj => ?_)
          ·skip
           refine zw2 ?_
           refine AWp_cond rfl (fun h9 => ?_) (fun h9 => ?_)
           ·(try rw [h9]); (try simp only [decide_eq_true_eq, decide_eq_false_iff_not, Bool.not_eq_true', Bool.not_eq_false', Int.not_lt, Int.not_le, Bool.not_true, Bool.not_false, Int.toNat_natCast, tn1, tn2, tnn, bne_iff_ne, beq_iff_eq, beq_eq_false_iff_ne, ne_eq, Decidable.not_not] at h9)
            refine AWp_regL ?_
            refine zg5 ?_
            refine zt rfl (zc rfl (callSA hp (fail_r s y p _ (get_setA hp) (y.a : Int) 5))) ?_
            refine zon ?_
            first | exact ⟨rfail y y.a 5, ⟨by rw [if_neg (by assumption), ← hy1, hy2], hy2, hy3⟩, ⟨rfl, rfl, rfl, rfl, rfl, rfl, trivial⟩, rfl⟩ | exact ⟨y, ⟨by rw [if_pos (by assumption), ← hy1], hy2, hy3⟩, ⟨rfl, rfl, rfl, rfl, rfl, rfl, trivial⟩, rfl⟩
           ·(try rw [h9]); (try simp only [decide_eq_true_eq, decide_eq_false_iff_not, Bool.not_eq_true', Bool.not_eq_false', Int.not_lt, Int.not_le, Bool.not_true, Bool.not_false, Int.toNat_natCast, tn1, tn2, tnn, bne_iff_ne, beq_iff_eq, beq_eq_false_iff_ne, ne_eq, Decidable.not_not] at h9)
            refine AWp_skip ?_
            first | exact ⟨rfail y y.a 5, ⟨by rw [if_neg (by assumption), ← hy1, hy2], hy2, hy3⟩, ⟨rfl, rfl, rfl, rfl, rfl, rfl, trivial⟩, rfl⟩ | exact ⟨y, ⟨by rw [if_pos (by assumption), ← hy1], hy2, hy3⟩, ⟨rfl, rfl, rfl, rfl, rfl, rfl, trivial⟩, rfl⟩
          ·skip
           obtain ⟨hx1, hx2, hx3⟩ := hj
           refine zw5 ?_
           refine AWp_regL ?_
           refine zv3 ?_
           have hone : rone (rval n s) s t = rnumv s t := by unfold rone; rw [if_neg (by omega), if_neg (by omega), if_neg (by omega), if_neg (by omega), if_neg (by omega), if_neg (by omega), if_pos (by omega)]
           have hnum : rnumv s t = (.mk 2 false (rNum (s.extract t.a (rEnd s t.a).1)).1 e0 [] [], ⟨(rEnd s t.a).1, x.deep, x.bad, x.spot⟩) := by rw [hx3]; unfold rnumv; rw [← hx1]
           simp only [hone, hnum]
           exact ⟨(.nils, .nils, _), ⟨nilL, nilM⟩, ⟨rfl, rfl, rfl, rfl, trivial⟩, rfl⟩
        ·rw [h7]; (try simp only [decide_eq_true_eq, decide_eq_false_iff_not, Bool.not_eq_true', Bool.not_eq_false', Int.not_lt, Int.not_le, Bool.not_true, Bool.not_false, Int.toNat_natCast, tn1, tn2, tnn, bne_iff_ne, beq_iff_eq, beq_eq_false_iff_ne, ne_eq, Decidable.not_not] at h7)
         refine zg3 ?_
         refine zsp 45 rfl (fun h10 => ?_) fun h10 => ?_
         ·rw [h10]; (try simp only [decide_eq_true_eq, decide_eq_false_iff_not, Bool.not_eq_true', Bool.not_eq_false', Int.not_lt, Int.not_le, Bool.not_true, Bool.not_false, Int.toNat_natCast, tn1, tn2, tnn, bne_iff_ne, beq_iff_eq, beq_eq_false_iff_ne, ne_eq, Decidable.not_not] at h10)
          refine zv4 ?_
          refine AWp_cond rfl (fun h11 => ?_) (fun h11 => ?_)
          ·(try rw [h11]); (try simp only [decide_eq_true_eq, decide_eq_false_iff_not, Bool.not_eq_true', Bool.not_eq_false', Int.not_lt, Int.not_le, Bool.not_true, Bool.not_false, Int.toNat_natCast, tn1, tn2, tnn, bne_iff_ne, beq_iff_eq, beq_eq_false_iff_ne, ne_eq, Decidable.not_not] at h11)
           refine AWp_seq ?_
           have hpk := pk_yes (s := s) (a := t.a) (bad := t.bad) (by omega)
           have hel := rEnd_le (s := s) (a := t.a) (by omega)
           refine AWp_drawL #[0, 1, 3, 7, 0, 16, 48, 112, 255, 511, 1023, 1023, 2047, 8191] Tryd.mixed (by decide +kernel) (by decide +kernel) ?_
           refine zd3 ?_
           refine zp1 ?_
           refine zd3 ?_
           refine zp1 ?_
           refine yP rfl rfl (zc rfl (end_c s t.a _ (by omega) (by omega))) (trivial) ?_
           refine zd5 ?_
           refine RP.nil rfl ?_
           refine AWp_join (ι := RS) (fun y => y = (if (rEnd s t.a).2 = true then t else rfail t (rEnd s t.a).1 1) ∧ y.a = t.a ∧ y.deep = t.deep) (fun y => ⟨[], [(0, .ptr p 0), (2, .ptr (σ.length + 0) 0), (3, .ptr (σ.length + 1) 0), (5, .int .i64 ((rEnd s t.a).1 : Int))]⟩) (fun y => σ.set p (rbox s y) ++ [.box [.int .i64 0, .bool false, .bool false, .str e0, .int .i64 0, .str e0, .nils, .nils], .box [.int .i64 0, .bool false, .bool false, .str e0, .int .i64 0, .str e0, .nils, .nils]]) ?_ (fun y hj => ?_)
           ·skip
            refine zw2 ?_
            refine AWp_cond rfl (fun h12 => ?_) (fun h12 => ?_)
            ·(try rw [h12]); (try simp only [decide_eq_true_eq, decide_eq_false_iff_not, Bool.not_eq_true', Bool.not_eq_false', Int.not_lt, Int.not_le, Bool.not_true, Bool.not_false, Int.toNat_natCast, tn1, tn2, tnn, bne_iff_ne, beq_iff_eq, beq_eq_false_iff_ne, ne_eq, Decidable.not_not] at h12)
             refine AWp_regL ?_
             refine zg2 ?_
             refine zt rfl (zc rfl (callSA hp (fail_r s t p _ (get_setA hp) ((rEnd s t.a).1 : Int) 1))) ?_
             refine zon ?_
             first | exact ⟨rfail t (rEnd s t.a).1 1, ⟨by rw [if_neg (by simp [*])], rfl, rfl⟩, ⟨rfl, rfl, rfl, rfl, rfl, trivial⟩, rfl⟩ | exact ⟨t, ⟨by rw [if_pos (by simp [*])], rfl, rfl⟩, ⟨rfl, rfl, rfl, rfl, rfl, trivial⟩, rfl⟩
            ·(try rw [h12]); (try simp only [decide_eq_true_eq, decide_eq_false_iff_not, Bool.not_eq_true', Bool.not_eq_false', Int.not_lt, Int.not_le, Bool.not_true, Bool.not_false, Int.toNat_natCast, tn1, tn2, tnn, bne_iff_ne, beq_iff_eq, beq_eq_false_iff_ne, ne_eq, Decidable.not_not] at h12)
             refine AWp_skip ?_
             first | exact ⟨rfail t (rEnd s t.a).1 1, ⟨by rw [if_neg (by simp [*])], rfl, rfl⟩, ⟨rfl, rfl, rfl, rfl, rfl, trivial⟩, rfl⟩ | exact ⟨t, ⟨by rw [if_pos (by simp [*])], rfl, rfl⟩, ⟨rfl, rfl, rfl, rfl, rfl, trivial⟩, rfl⟩
           ·skip
            obtain ⟨hy1, hy2, hy3⟩ := hj
            refine AWp_seq ?_
            refine AWp_drawL #[0, 1, 3, 7, 0, 16, 48, 112, 0, 511, 1023, 2047, 4095, 4095, 0, 24575, 65535] Tryd.mixed (by decide +kernel) (by decide +kernel) ?_
            refine zd3 ?_
            refine zp1 ?_
            refine zd3 ?_
            refine zp1 ?_
            refine zd2 ?_
            simp only [Int.toNat_natCast, hy2]
            refine yP rfl rfl (zc rfl (rnum_c (s.extract t.a (rEnd s t.a).1) _ (by rw [ByteArray.size_extract]; omega))) (trivial) ?_
            refine zd3 ?_
            refine yE rfl rfl (zoa) (⟨.inr (op_callF rfl rfl rfl Tryd.func88 rfl rfl (rnum_c (s.extract t.a (rEnd s t.a).1) _ (by rw [ByteArray.size_extract]; omega))), ⟨.inr (op_load1 rfl Tryd.isAgg3 (ldv_setA hp (by rw [← hy2]; rfl))), ⟨.inr (op_load1 rfl Tryd.isAgg9 (ldv_setA hp rfl)), trivial⟩⟩⟩) (trivial) ?_
            refine yEN rfl rfl rfl (zoa) (⟨.inl rfl, ⟨.inl rfl, ⟨.inl rfl, trivial⟩⟩⟩) (⟨rfl, trivial⟩) ?_
            refine zd1 ?_
            refine RP.nil rfl ?_
            refine AWp_join (ι := RS) (fun x => x = (if (rNum (s.extract t.a (rEnd s t.a).1)).2 = 0 then (if (rEnd s t.a).2 = true then t else rfail t (rEnd s t.a).1 1) else rfail (if (rEnd s t.a).2 = true then t else rfail t (rEnd s t.a).1 1) t.a 5) ∧ x.a = t.a ∧ x.deep = t.deep) (fun x => ⟨[], [(0, .ptr p 0), (2, .ptr (σ.length + 0) 0), (3, .ptr (σ.length + 1) 0), (5, .int .i64 ((rEnd s t.a).1 : Int)), (7, .ptr (σ.length + 2) 0)]⟩) (fun x => σ.set p (rbox s x) ++ [.box [.int .i64 0, .bool false, .bool false, .str e0, .int .i64 0, .str e0, .nils, .nils], .box [.int .i64 0, .bool false, .bool false, .str e0, .int .i64 0, .str e0, .nils, .nils], .box (ncells (rNum (s.extract t.a (rEnd s t.a).1)).1)]) ?_ (fun x hj => ?_)
            ·skip
             refine zw2 ?_
             refine AWp_cond rfl (fun h13 => ?_) (fun h13 => ?_)
             ·(try rw [h13]); (try simp only [decide_eq_true_eq, decide_eq_false_iff_not, Bool.not_eq_true', Bool.not_eq_false', Int.not_lt, Int.not_le, Bool.not_true, Bool.not_false, Int.toNat_natCast, tn1, tn2, tnn, bne_iff_ne, beq_iff_eq, beq_eq_false_iff_ne, ne_eq, Decidable.not_not] at h13)
              refine AWp_regL ?_
              refine zg5 ?_
              refine zt rfl (zc rfl (callSA hp (fail_r s y p _ (get_setA hp) (y.a : Int) 5))) ?_
              refine zon ?_
              first | exact ⟨rfail y y.a 5, ⟨by rw [if_neg (by assumption), ← hy1, hy2], hy2, hy3⟩, ⟨rfl, rfl, rfl, rfl, rfl, rfl, trivial⟩, rfl⟩ | exact ⟨y, ⟨by rw [if_pos (by assumption), ← hy1], hy2, hy3⟩, ⟨rfl, rfl, rfl, rfl, rfl, rfl, trivial⟩, rfl⟩
             ·(try rw [h13]); (try simp only [decide_eq_true_eq, decide_eq_false_iff_not, Bool.not_eq_true', Bool.not_eq_false', Int.not_lt, Int.not_le, Bool.not_true, Bool.not_false, Int.toNat_natCast, tn1, tn2, tnn, bne_iff_ne, beq_iff_eq, beq_eq_false_iff_ne, ne_eq, Decidable.not_not] at h13)
              refine AWp_skip ?_
              first | exact ⟨rfail y y.a 5, ⟨by rw [if_neg (by assumption), ← hy1, hy2], hy2, hy3⟩, ⟨rfl, rfl, rfl, rfl, rfl, rfl, trivial⟩, rfl⟩ | exact ⟨y, ⟨by rw [if_pos (by assumption), ← hy1], hy2, hy3⟩, ⟨rfl, rfl, rfl, rfl, rfl, rfl, trivial⟩, rfl⟩
            ·skip
             obtain ⟨hx1, hx2, hx3⟩ := hj
             refine zw5 ?_
             refine AWp_regL ?_
             refine zv3 ?_
             have hone : rone (rval n s) s t = rnumv s t := by unfold rone; rw [if_neg (by omega), if_neg (by omega), if_neg (by omega), if_neg (by omega), if_neg (by omega), if_neg (by omega), if_pos (by omega)]
             have hnum : rnumv s t = (.mk 2 false (rNum (s.extract t.a (rEnd s t.a).1)).1 e0 [] [], ⟨(rEnd s t.a).1, x.deep, x.bad, x.spot⟩) := by rw [hx3]; unfold rnumv; rw [← hx1]
             simp only [hone, hnum]
             exact ⟨(.nils, .nils, _), ⟨nilL, nilM⟩, ⟨rfl, rfl, rfl, rfl, trivial⟩, rfl⟩
          ·(try rw [h11]); (try simp only [decide_eq_true_eq, decide_eq_false_iff_not, Bool.not_eq_true', Bool.not_eq_false', Int.not_lt, Int.not_le, Bool.not_true, Bool.not_false, Int.toNat_natCast, tn1, tn2, tnn, bne_iff_ne, beq_iff_eq, beq_eq_false_iff_ne, ne_eq, Decidable.not_not] at h11)
           refine AWp_regL ?_
           refine zg5 ?_
           refine zt rfl (zc rfl (callSA hp (fail_r s t p _ (get_setA hp) (t.a : Int) 1))) ?_
           refine zon ?_
           have hone : rone (rval n s) s t = (vz, rfail t t.a 1) := by unfold rone; rw [if_neg (by omega), if_neg (by omega), if_neg (by omega), if_neg (by omega), if_neg (by omega), if_neg (by omega), if_neg (by omega)]
           simp only [hone]
           exact ⟨(.nils, .nils, _), ⟨nilL, nilM⟩, ⟨rfl, rfl, rfl, rfl, trivial⟩, rfl⟩
         ·rw [h10]; (try simp only [decide_eq_true_eq, decide_eq_false_iff_not, Bool.not_eq_true', Bool.not_eq_false', Int.not_lt, Int.not_le, Bool.not_true, Bool.not_false, Int.toNat_natCast, tn1, tn2, tnn, bne_iff_ne, beq_iff_eq, beq_eq_false_iff_ne, ne_eq, Decidable.not_not] at h10)
          refine zv4 ?_
          refine AWp_condF rfl ?_
          refine AWp_regL ?_
          refine zg5 ?_
          refine zt rfl (zc rfl (callSA hp (fail_r s t p _ (get_setA hp) (t.a : Int) 1))) ?_
          refine zon ?_
          have hone : rone (rval n s) s t = (vz, rfail t t.a 1) := by unfold rone; rw [if_neg (by omega), if_neg (by omega), if_neg (by omega), if_neg (by omega), if_neg (by omega), if_neg (by omega), if_neg (by omega)]
          simp only [hone]
          exact ⟨(.nils, .nils, _), ⟨nilL, nilM⟩, ⟨rfl, rfl, rfl, rfl, trivial⟩, rfl⟩
 ·skip
  obtain ⟨L, M, w⟩ := z
  obtain ⟨hL, hM⟩ := hj
  simp only at hL hM ⊢
  refine AWp_seq ?_
  have hok := rone_ok hs (fun r h => rval_ok hs n r h) hb1.ok
  refine AWp_boxLeS 1 (bs' := [.int .i64 (rone (rval n s) s t).1.kind, .bool (rone (rval n s) s t).1.b, .bool (rone (rval n s) s t).1.n.neg, .str (rone (rval n s) s t).1.n.digits, .int .i64 (rone (rval n s) s t).1.n.exp, .str (rone (rval n s) s t).1.s, .sl false 8 (lcells (rone (rval n s) s t).1.l), .sl false 9 (mcells (rone (rval n s) s t).1.m)]) rfl ⟨AVle.refl _, AVle.refl _, AVle.refl _, AVle.refl _, AVle.refl _, AVle.refl _, hL, hM, trivial⟩ ?_
  refine AWp_regL ?_
  refine zg1 ?_
  refine zt rfl (zc rfl (callSA hp (blank_r s (rone (rval n s) s t).2 p _ (get_setA hp) hs hok.fwd.ok))) ?_
  refine zon ?_
  refine zw2 ?_
  refine zrt ?_
  rw [hres, vcells_eq]
  exact RQ_retS (rkvs_cons (rkv_ckS rfl rfl rfl) rfl) (x := rbox s (rblank s (rone (rval n s) s t).2)) hcl (by simp [AO.cells, AV.ltL, AV.lt]) (by simp [rks, AV.lt, AV.ltL]) ⟨rfl, rfl⟩
end Lg
set_option maxRecDepth 20000
set_option maxHeartbeats 4000000
namespace Lg
open Go Go.Proofs Go.RowKit
variable [GLay] 
theorem rpar_c (s : ByteArray) (hs : s.size ≤ 100000) (p : Nat) (σ : List AO) (hσ : σ[p]? = some (rbox s ⟨0, 0, 0, 0⟩)) : ACalls Tryd.prog 58 [.ptr p 0] σ (Ret (.agg (vcells (rpar s).1)) (σ.set p (rbox s (rpar s).2))) := value_r s hs (s.size + 2) ⟨0, 0, 0, 0⟩ p σ hσ ⟨Nat.zero_le _, fun _ => Nat.zero_le _, Int.le_refl _, Int.le_refl _⟩ (by dsimp only; omega)
theorem parse_c (s : ByteArray) (σ : List AO) (hs : s.size ≤ 100000) : ACalls Tryd.prog 37 [.str s] σ (Ret (.tup [.agg (vcells (rParse s).1), .int .i64 (rParse s).2.1, .int .i64 (rParse s).2.2]) σ) := by
 refine ACalls_bodyC Tryd.func37 rfl Tryd.ntmps37 (by rw [Tryd.results37]; exact (.ck Tryd.isAgg36 Tryd.sizeOf36 (.t (.t .nil)))) (Nat.le_of_ble_eq_true rfl) (fun hcl hal => ?_)
 refine zw3 ?_
 refine AWp_seq ?_
 refine zw3 ?_
 refine AWp_cond rfl (fun h1 => ?_) (fun h1 => ?_)
 ·(try rw [h1]); replace h1 := zcl h1
  refine zw4 ?_
  refine AWp_boxLeO 0 (bs' := [.int .i64 vz.kind, .bool vz.b, .bool vz.n.neg, .str vz.n.digits, .int .i64 vz.n.exp, .str vz.s, .sl false 8 (lcells vz.l), .sl false 9 (mcells vz.m)]) rfl ⟨AVle.refl _, AVle.refl _, AVle.refl _, AVle.refl _, AVle.refl _, AVle.refl _, nilL, nilM, trivial⟩ ?_
  refine zrt ?_
  have hE : rParse s = (vz, 5, 20000) := by unfold rParse; rw [if_pos (by omega)]
  rw [hE, vcells_eq]; exact RQ_ret (rkvs_cons (rkv_ck rfl rfl rfl) (rkvs_cons (rkv_t rfl) (rkvs_cons (rkv_t rfl) rfl))) hcl (by simp [rks, AV.lt, AV.ltL, ofConst1, ncells]) ⟨rfl, rfl⟩
 ·(try rw [h1]); replace h1 := zcl h1
  refine AWp_skip ?_
  refine zw4 ?_
  refine zu1 ?_
  refine zt rfl (zc rfl (callO 1 (rpar_c s hs (σ.length + 1) _ (by rw [get_ownT rfl]; rfl)))) ?_
  rw [vcells_eq (rpar s).1]
  refine zv2 ?_
  refine AWp_join (ι := Unit) (fun b => True) (fun b => ⟨[], [(0, .str s), (2, .ptr (σ.length + 0) 0), (5, .ptr (σ.length + 1) 0), (6, .ptr (σ.length + 2) 0)]⟩) (fun b => σ ++ [.box [.int .i64 0, .bool false, .bool false, .str e0, .int .i64 0, .str e0, .nils, .nils], rbox s (rparE s), .box [.int .i64 (rpar s).1.kind, .bool (rpar s).1.b, .bool (rpar s).1.n.neg, .str (rpar s).1.n.digits, .int .i64 (rpar s).1.n.exp, .str (rpar s).1.s, .sl false 8 (lcells (rpar s).1.l), .sl false 9 (mcells (rpar s).1.m)]]) ?_ (fun b hj => ?_)
  ·skip
   refine zu6 ?_
   refine zsp 21 rfl (fun h2 => ?_) fun h2 => ?_
   ·rw [h2]; replace h2 := zcl h2
    refine zv8 ?_
    refine AWp_cond rfl (fun h3 => ?_) (fun h3 => ?_)
    ·(try rw [h3]); replace h3 := zcl h3
     refine AWp_regL ?_
     refine zg5 ?_
     refine zt rfl (zc rfl (callO 1 (fail_r s (rpar s).2 (σ.length + 1) _ (by rw [get_ownT rfl]; rfl) ((rpar s).2.a : Int) 1))) ?_
     refine zon ?_
     refine ⟨(), trivial, ⟨rfl, rfl, rfl, rfl, rfl, trivial⟩, ?_⟩
     unfold rparE; first | (rw [if_pos ⟨by omega, by omega⟩]; rfl) | (rw [if_neg (by omega)]; rfl)
    ·(try rw [h3]); replace h3 := zcl h3
     refine AWp_skip ?_
     refine ⟨(), trivial, ⟨rfl, rfl, rfl, rfl, rfl, trivial⟩, ?_⟩
     unfold rparE; first | (rw [if_pos ⟨by omega, by omega⟩]; rfl) | (rw [if_neg (by omega)]; rfl)
   ·rw [h2]; replace h2 := zcl h2
    refine zv8 ?_
    refine AWp_condF rfl ?_
    refine AWp_skip ?_
    refine ⟨(), trivial, ⟨rfl, rfl, rfl, rfl, rfl, trivial⟩, ?_⟩
    unfold rparE; first | (rw [if_pos ⟨by omega, by omega⟩]; rfl) | (rw [if_neg (by omega)]; rfl)
  ·skip
   refine AWp_seq ?_
   refine zw5 ?_
   refine AWp_cond rfl (fun h4 => ?_) (fun h4 => ?_)
   ·(try rw [h4]); replace h4 := zcl h4
    refine AWp_seq ?_
    refine AWp_drawL #[0, 0, 2, 6, 14, 0, 32, 96, 224, 1, 543, 2047] Tryd.mixed (by decide +kernel) (by decide +kernel) ?_
    refine zd4 ?_
    refine zp1 ?_
    refine zd3 ?_
    refine zp1 ?_
    refine yEN rfl rfl rfl (zoa) (⟨.inr (op_load1 rfl Tryd.isAgg3 (ldv_own rfl rfl)), ⟨.inr (op_load1 rfl Tryd.isAgg3 (ldv_own rfl rfl)), trivial⟩⟩) (trivial) ?_
    refine zd2 ?_
    refine RP.nil rfl ?_
    refine AWp_boxLeO 0 (bs' := [.int .i64 vz.kind, .bool vz.b, .bool vz.n.neg, .str vz.n.digits, .int .i64 vz.n.exp, .str vz.s, .sl false 8 (lcells vz.l), .sl false 9 (mcells vz.m)]) rfl ⟨AVle.refl _, AVle.refl _, AVle.refl _, AVle.refl _, AVle.refl _, AVle.refl _, nilL, nilM, trivial⟩ ?_
    refine zrt ?_
    have hE : rParse s = (vz, (rparE s).bad, (rparE s).spot) := by unfold rParse; rw [if_neg (by omega), if_neg (by assumption)]
    rw [hE, vcells_eq]; exact RQ_ret (rkvs_cons (rkv_ck rfl rfl rfl) (rkvs_cons (rkv_t rfl) (rkvs_cons (rkv_t rfl) rfl))) hcl (by simp [rks, AV.lt, AV.ltL, ofConst1, ncells]) ⟨rfl, rfl⟩
   ·(try rw [h4]); replace h4 := zcl h4
    refine AWp_skip ?_
    refine zw4 ?_
    refine zrt ?_
    have hE : rParse s = ((rpar s).1, 0, 0) := by unfold rParse; rw [if_neg (by omega), if_pos (by assumption)]
    rw [hE, vcells_eq]; exact RQ_ret (rkvs_cons (rkv_ck rfl rfl rfl) (rkvs_cons (rkv_t rfl) (rkvs_cons (rkv_t rfl) rfl))) hcl (by simp [rks, AV.lt, AV.ltL, ofConst1, ncells]) ⟨rfl, rfl⟩

theorem value_c (s : ByteArray) (σ : List AO) : ACalls Tryd.prog 14 [.str s] σ (Ret (.tup [.agg (vcells (rValue s).1), .int .i64 (rValue s).2]) σ) := by
 refine ACalls_bodyC Tryd.func14 rfl Tryd.ntmps14 (by rw [Tryd.results14]; exact (.ck Tryd.isAgg36 Tryd.sizeOf36 (.t .nil))) (Nat.le_of_ble_eq_true rfl) (fun hcl hal => ?_)
 refine zw2 ?_
 refine AWp_seq ?_
 refine zw3 ?_
 refine AWp_cond rfl (fun h1 => ?_) (fun h1 => ?_)
 ·(try rw [h1]); replace h1 := zcl h1
  refine zw3 ?_
  refine AWp_boxLeO 0 (bs' := [.int .i64 vz.kind, .bool vz.b, .bool vz.n.neg, .str vz.n.digits, .int .i64 vz.n.exp, .str vz.s, .sl false 8 (lcells vz.l), .sl false 9 (mcells vz.m)]) rfl ⟨AVle.refl _, AVle.refl _, AVle.refl _, AVle.refl _, AVle.refl _, AVle.refl _, nilL, nilM, trivial⟩ ?_
  refine zrt ?_
  have hE : rValue s = (vz, 0) := by unfold rValue; rw [if_pos (by omega)]
  rw [hE, vcells_eq]; exact RQ_ret (rkvs_cons (rkv_ck rfl rfl rfl) (rkvs_cons (rkv_t rfl) rfl)) hcl (by simp [rks, AV.lt, AV.ltL, ofConst1, ncells]) ⟨rfl, rfl⟩
 ·(try rw [h1]); replace h1 := zcl h1
  refine AWp_skip ?_
  refine zu1 ?_
  refine zt rfl (zc rfl (parse_c s _ (by omega))) ?_
  rw [vcells_eq (rParse s).1]
  refine zv8 ?_
  refine AWp_seq ?_
  refine zw2 ?_
  refine AWp_cond rfl (fun h2 => ?_) (fun h2 => ?_)
  ·(try rw [h2]); replace h2 := zcl h2
   refine zw3 ?_
   refine AWp_boxLeO 0 (bs' := [.int .i64 vz.kind, .bool vz.b, .bool vz.n.neg, .str vz.n.digits, .int .i64 vz.n.exp, .str vz.s, .sl false 8 (lcells vz.l), .sl false 9 (mcells vz.m)]) rfl ⟨AVle.refl _, AVle.refl _, AVle.refl _, AVle.refl _, AVle.refl _, AVle.refl _, nilL, nilM, trivial⟩ ?_
   refine zrt ?_
   have hE : rValue s = (vz, 0) := by unfold rValue; rw [if_neg (by omega), if_neg (by assumption)]
   rw [hE, vcells_eq]; exact RQ_ret (rkvs_cons (rkv_ck rfl rfl rfl) (rkvs_cons (rkv_t rfl) rfl)) hcl (by simp [rks, AV.lt, AV.ltL, ofConst1, ncells]) ⟨rfl, rfl⟩
  ·(try rw [h2]); replace h2 := zcl h2
   refine AWp_skip ?_
   refine zw3 ?_
   refine zrt ?_
   have hE : rValue s = ((rParse s).1, 1) := by unfold rValue; rw [if_neg (by omega), if_pos (by assumption)]
   rw [hE, vcells_eq]; exact RQ_ret (rkvs_cons (rkv_ck rfl rfl rfl) (rkvs_cons (rkv_t rfl) rfl)) hcl (by simp [rks, AV.lt, AV.ltL, ofConst1, ncells]) ⟨rfl, rfl⟩
end Lg
set_option maxRecDepth 20000
set_option maxHeartbeats 4000000
namespace Lg
open Go Go.Proofs Go.RowKit
variable [GLay] [S10]
theorem shapeTells_c (name s : ByteArray) (σ : List AO) : ACalls Tryd.prog 5 [.str name, .str s] σ (Ret (.bool true) σ) := by
 refine ACalls_body Tryd.func5 rfl Tryd.ntmps5 (res1 Tryd.results5) (Nat.le_of_ble_eq_true rfl) (fun hcl hal => ?_)
 have hva := rValue_ok s
 refine zw1 ?_
 refine zsr ?_
 refine zt rfl (zc rfl (up10_c _)) ?_
 refine zv1 ?_
 refine zu1 ?_
 refine zt rfl (zc rfl (value_c s _)) ?_
 generalize (rValue s).1 = v at hva ⊢
 generalize (rValue s).2 = ok at hva ⊢
 rw [vcells_eq v]
 refine zv6 ?_
 refine AWp_seq ?_
 refine zu3 ?_
 refine zsp 17 rfl (fun h1 => ?_) fun h1 => ?_
 ·rw [h1]; replace h1 := zcl h1
  refine zv4 ?_
  refine AWp_condT rfl ?_
  refine zw2 ?_
  refine zrt ?_
  exact ResQ_1 rfl hcl trivial (Ret_of rfl)
 ·rw [h1]; replace h1 := zcl h1
  obtain ⟨hmy, hjb, hjs⟩ : jmay v ∧ jb v ∧ jsize v ≤ 2002 := by rcases hva with h | h; exact absurd h.1 h1; exact h.2
  obtain ⟨_, _, hl0, hm0, _, _⟩ := (jb_eq v).1 hjb
  have hl : v.l.length ≤ 1000000000 := by omega
  have hm : v.m.length ≤ 1000000000 := by omega
  have hw : v.kind = 2 → rWhole v.n = decide (0 ≤ v.n.exp) := fun _ => may_whole hmy
  refine zv4 ?_
  refine AWp_cond rfl (fun h2 => ?_) (fun h2 => ?_)
  ·(try rw [h2]); replace h2 := zcl h2
   refine zw2 ?_
   refine zrt ?_
   exact ResQ_1 rfl hcl trivial (Ret_of rfl)
  ·(try rw [h2]); replace h2 := zcl h2
   refine AWp_skip ?_
   refine zu2 ?_
   refine zt rfl (zc rfl (vcells_eq v ▸ rshape_c name v _ hl hm)) ?_
   refine zv1 ?_
   refine AWp_seq ?_
   refine zu2 ?_
   refine zt rfl (zc rfl (vcells_eq v ▸ check_c name v _ hl hm hw)) ?_
   refine zt rfl (zc rfl (codev_c _ _ (rShape_range name v))) ?_
   refine zg1 ?_
   refine zt rfl (op_neqF rfl rfl rfl rfl) ?_
   refine zg2 ?_
   refine ztG rfl rfl (zc rfl (single_c name _)) ?_
   refine zg1 ?_
   refine ztG rfl rfl (zc rfl (rsingle_c name _)) ?_
   refine ztG rfl rfl (op_bneqS rfl Tryd.underlying4 rfl rfl) ?_
   refine zv1 ?_
   refine AWp_condF rfl ?_
   refine AWp_skip ?_
   refine AWp_seq ?_
   refine AWp_drawL #[0, 1, 3, 7, 15, 31, 31, 127, 31, 31, 1023, 2047, 4095, 8191, 16383, 32767] Tryd.mixed (by decide +kernel) (by decide +kernel) ?_
   refine zd5 ?_
   refine zspr 43 rfl (fun h3 => ?_) fun h3 => ?_
   ·rw [h3]; replace h3 := zcl h3
    refine zd10 ?_
    refine zd1 ?_
    refine RP.nil rfl ?_
    refine zrt ?_
    exact ResQ_1 rfl hcl trivial (Ret_of rfl)
   ·rw [h3]; replace h3 := zcl h3
    refine zd1 ?_
    refine zp1 ?_
    refine yPG rfl rfl rfl (zc rfl (vcells_eq v ▸ kids_c name v _ hl hm)) (trivial) ?_
    refine zd1 ?_
    refine zp1 ?_
    refine yPG rfl rfl rfl (zc rfl (vcells_eq v ▸ rkids_c name v _ hl)) (trivial) ?_
    refine yPG rfl rfl rfl (zc rfl (same10_c (kidsM name v) _ (by have := kids_len (n := name) hjb; omega) (fun i q hq => (kids_jb hjb hq).1))) (trivial) ?_
    refine zd4 ?_
    refine RP.nil rfl ?_
    refine zrt ?_
    exact ResQ_1 rfl hcl trivial (Ret_of rfl)
end Lg
set_option maxRecDepth 20000
set_option maxHeartbeats 4000000
namespace Lg
open Go Go.Proofs Go.RowKit
variable [GLay] [S10]
theorem shapeKids_c (name s : ByteArray) (σ : List AO) : ACalls Tryd.prog 6 [.str name, .str s] σ (Ret (.bool true) σ) := by
 refine ACalls_body Tryd.func6 rfl Tryd.ntmps6 (res1 Tryd.results6) (Nat.le_of_ble_eq_true rfl) (fun hcl hal => ?_)
 have hva := rValue_ok s
 refine zw1 ?_
 refine zsr ?_
 refine zt rfl (zc rfl (up10_c _)) ?_
 refine zv1 ?_
 refine zu1 ?_
 refine zt rfl (zc rfl (value_c s _)) ?_
 generalize (rValue s).1 = v at hva ⊢
 generalize (rValue s).2 = ok at hva ⊢
 rw [vcells_eq v]
 refine zv6 ?_
 refine AWp_seq ?_
 refine zu3 ?_
 refine zsp 20 rfl (fun h1 => ?_) fun h1 => ?_
 ·rw [h1]; replace h1 := zcl h1
  refine zv4 ?_
  refine AWp_condT rfl ?_
  refine zw2 ?_
  refine zrt ?_
  exact ResQ_1 rfl hcl trivial (Ret_of rfl)
 ·rw [h1]; replace h1 := zcl h1
  obtain ⟨hmy, hjb, hjs⟩ : jmay v ∧ jb v ∧ jsize v ≤ 2002 := by rcases hva with h | h; exact absurd h.1 h1; exact h.2
  obtain ⟨_, _, hl0, hm0, _, _⟩ := (jb_eq v).1 hjb
  have hl : v.l.length ≤ 1000000000 := by omega
  have hm : v.m.length ≤ 1000000000 := by omega
  have hw : v.kind = 2 → rWhole v.n = decide (0 ≤ v.n.exp) := fun _ => may_whole hmy
  have hkn := kids_len (n := name) hjb
  refine zv4 ?_
  refine AWp_cond rfl (fun h2 => ?_) (fun h2 => ?_)
  ·(try rw [h2]); replace h2 := zcl h2
   refine zw2 ?_
   refine zrt ?_
   exact ResQ_1 rfl hcl trivial (Ret_of rfl)
  ·(try rw [h2]); replace h2 := zcl h2
   refine AWp_skip ?_
   refine AWp_seq ?_
   refine zu2 ?_
   refine zt rfl (zc rfl (vcells_eq v ▸ check_c name v _ hl hm hw)) ?_
   refine zt rfl (op_eqCerv rfl Tryd.underlying26 rfl) ?_
   refine zon ?_
   refine AWp_cond rfl (fun h3 => ?_) (fun h3 => ?_)
   ·(try rw [h3]); replace h3 := zcl h3
    have hml := mcells_length (kidsM name v)
    refine zu2 ?_
    refine zt rfl (zc rfl (vcells_eq v ▸ kids_c name v _ hl hm)) ?_
    refine zv1 ?_
    refine AWp_seq ?_
    refine zw1 ?_
    refine AWp_block ?_
    -- loop 0 LIVE 0:param 4:assign 5:assign 6:alloc 8:assign 9:assign
    refine AWp_loop (ι := Nat) (fun i => i ≤ (kidsM name v).length) (fun i => ⟨[], [(0, .str name), (5, .bool true), (6, .ptr (σ.length + 0) 0), (8, .sl false 9 (mcells (kidsM name v))), (9, .int .i64 (i : Int))]⟩) (fun i => σ ++ [_]) (fun i => (kidsM name v).length - i) (0) (Nat.zero_le _) ?_ rfl (fun i hi => ?_)
    ·exact ⟨rfl, rfl, rfl, rfl, rfl, rfl, trivial⟩
    refine AWp_seq ?_
    refine zw4 ?_
    refine AWp_cond rfl (fun h4 => ?_) (fun h4 => ?_)
    ·(try rw [h4]); replace h4 := zcl h4
     obtain ⟨q, hq⟩ : ∃ q, (kidsM name v)[i]? = some q := ⟨_, List.getElem?_eq_getElem (show i < (kidsM name v).length by omega)⟩
     refine AWp_skip ?_
     refine AWp_seq ?_
     refine AWp_block ?_
     refine zu4 ?_
     rw [vcells_eq q.2]
     refine zg4 ?_
     refine zsp 46 rfl (fun h5 => ?_) fun h5 => ?_
     ·rw [h5]; replace h5 := zcl h5
      refine zg4 ?_
      (try rw [vcells_eq q.2])
      refine zv4 ?_
      refine AWp_cond rfl (fun h6 => ?_) (fun h6 => ?_)
      ·(try rw [h6]); replace h6 := zcl h6
       rcases kids_sch h3 hq with h | h
       ·exact absurd h h5
       ·exact absurd h h6
      ·(try rw [h6]); replace h6 := zcl h6
       refine AWp_skip ?_
       refine AWp_regL ?_
       refine zv3 ?_
       refine ⟨i + 1, σ.length + 1, by omega, by omega, by simp, ⟨rfl, rfl, rfl, rfl, rfl, rfl, trivial⟩, closed_own 1 hcl ?_, ?_, take_own 1⟩
       ·simp [ownLt, AO.cells, AV.ltL, AV.lt]
       ·simp [ltE, AV.lt]
     ·rw [h5]; replace h5 := zcl h5
      refine zg4 ?_
      (try rw [vcells_eq q.2])
      refine zv4 ?_
      refine AWp_condF rfl ?_
      refine AWp_skip ?_
      refine AWp_regL ?_
      refine zv3 ?_
      refine ⟨i + 1, σ.length + 1, by omega, by omega, by simp, ⟨rfl, rfl, rfl, rfl, rfl, rfl, trivial⟩, closed_own 1 hcl ?_, ?_, take_own 1⟩
      ·simp [ownLt, AO.cells, AV.ltL, AV.lt]
      ·simp [ltE, AV.lt]
    ·(try rw [h4]); replace h4 := zcl h4
     refine AWp_exit ?_
     refine zu1 ?_
     refine zt rfl (zc rfl (single_c name _)) ?_
     refine zg1 ?_
     refine zsp 57 rfl (fun h7 => ?_) fun h7 => ?_
     ·rw [h7]; replace h7 := zcl h7
      refine zv4 ?_
      refine AWp_cond rfl (fun h8 => ?_) (fun h8 => ?_)
      ·(try rw [h8]); replace h8 := zcl h8
       have h9 := kids_one (v := v) h7
       omega
      ·(try rw [h8]); replace h8 := zcl h8
       refine AWp_skip ?_
       refine zu1 ?_
       refine zt rfl (zc rfl (vcells_eq v ▸ check_c ⟨#[97, 108, 108, 79, 102]⟩ v _ hl hm hw)) ?_
       refine zt rfl (op_eqCerv rfl Tryd.underlying26 rfl) ?_
       refine zv1 ?_
       refine zu1 ?_
       refine zt rfl (zc rfl (vcells_eq v ▸ check_c ⟨#[112, 114, 111, 112, 101, 114, 116, 105, 101, 115]⟩ v _ hl hm hw)) ?_
       refine zt rfl (op_eqCerv rfl Tryd.underlying26 rfl) ?_
       refine zv1 ?_
       refine zu4 ?_
       refine ztG rfl rfl (zc rfl (vcells_eq v ▸ check_to ⟨#[97, 108, 108, 79, 102]⟩ ⟨#[97, 110, 121, 79, 102]⟩ v _ hl hm hw (rShape_as v (by decide +kernel)))) ?_
       refine ztG rfl rfl (op_eqCerv rfl Tryd.underlying26 rfl) ?_
       refine ztG rfl rfl (op_beqlS rfl Tryd.underlying4 rfl rfl) ?_
       refine zg4 ?_
       refine ztG rfl rfl (zc rfl (vcells_eq v ▸ check_to ⟨#[97, 108, 108, 79, 102]⟩ ⟨#[111, 110, 101, 79, 102]⟩ v _ hl hm hw (rShape_as v (by decide +kernel)))) ?_
       refine ztG rfl rfl (op_eqCerv rfl Tryd.underlying26 rfl) ?_
       refine ztG rfl rfl (op_beqlS rfl Tryd.underlying4 rfl rfl) ?_
       refine zg4 ?_
       refine ztG rfl rfl (zc rfl (vcells_eq v ▸ check_to ⟨#[112, 114, 111, 112, 101, 114, 116, 105, 101, 115]⟩ ⟨#[36, 100, 101, 102, 115]⟩ v _ hl hm hw (rShape_as v (by decide +kernel)))) ?_
       refine ztG rfl rfl (op_eqCerv rfl Tryd.underlying26 rfl) ?_
       refine ztG rfl rfl (op_beqlS rfl Tryd.underlying4 rfl rfl) ?_
       refine zg3 ?_
       refine ztG rfl rfl (zc rfl (vcells_eq v ▸ check_const v _ hl hm hw)) ?_
       have hz1 : (ByteArray.mk #[122]).size = 1 := rfl
       have hz2 := ByteArray.size_append (a := ⟨#[122]⟩) (b := name)
       refine zg6 ?_
       refine ztG rfl rfl (zc rfl (vcells_eq v ▸ check_z name v _ hl hm hw)) ?_
       refine ztG rfl rfl (zc rfl (code_k 10 _ (by decide) (by decide))) ?_
       refine ztG rfl rfl (op_eqlT rfl rfl rfl rfl) ?_
       refine zv2 ?_
       refine zrt ?_
       exact ResQ_1 rfl hcl trivial (Ret_of rfl)
     ·rw [h7]; replace h7 := zcl h7
      refine zv4 ?_
      refine AWp_condF rfl ?_
      refine AWp_skip ?_
      refine zu1 ?_
      refine zt rfl (zc rfl (vcells_eq v ▸ check_c ⟨#[97, 108, 108, 79, 102]⟩ v _ hl hm hw)) ?_
      refine zt rfl (op_eqCerv rfl Tryd.underlying26 rfl) ?_
      refine zv1 ?_
      refine zu1 ?_
      refine zt rfl (zc rfl (vcells_eq v ▸ check_c ⟨#[112, 114, 111, 112, 101, 114, 116, 105, 101, 115]⟩ v _ hl hm hw)) ?_
      refine zt rfl (op_eqCerv rfl Tryd.underlying26 rfl) ?_
      refine zv1 ?_
      refine zu4 ?_
      refine ztG rfl rfl (zc rfl (vcells_eq v ▸ check_to ⟨#[97, 108, 108, 79, 102]⟩ ⟨#[97, 110, 121, 79, 102]⟩ v _ hl hm hw (rShape_as v (by decide +kernel)))) ?_
      refine ztG rfl rfl (op_eqCerv rfl Tryd.underlying26 rfl) ?_
      refine ztG rfl rfl (op_beqlS rfl Tryd.underlying4 rfl rfl) ?_
      refine zg4 ?_
      refine ztG rfl rfl (zc rfl (vcells_eq v ▸ check_to ⟨#[97, 108, 108, 79, 102]⟩ ⟨#[111, 110, 101, 79, 102]⟩ v _ hl hm hw (rShape_as v (by decide +kernel)))) ?_
      refine ztG rfl rfl (op_eqCerv rfl Tryd.underlying26 rfl) ?_
      refine ztG rfl rfl (op_beqlS rfl Tryd.underlying4 rfl rfl) ?_
      refine zg4 ?_
      refine ztG rfl rfl (zc rfl (vcells_eq v ▸ check_to ⟨#[112, 114, 111, 112, 101, 114, 116, 105, 101, 115]⟩ ⟨#[36, 100, 101, 102, 115]⟩ v _ hl hm hw (rShape_as v (by decide +kernel)))) ?_
      refine ztG rfl rfl (op_eqCerv rfl Tryd.underlying26 rfl) ?_
      refine ztG rfl rfl (op_beqlS rfl Tryd.underlying4 rfl rfl) ?_
      refine zg3 ?_
      refine ztG rfl rfl (zc rfl (vcells_eq v ▸ check_const v _ hl hm hw)) ?_
      have hz1 : (ByteArray.mk #[122]).size = 1 := rfl
      have hz2 := ByteArray.size_append (a := ⟨#[122]⟩) (b := name)
      refine zg6 ?_
      refine ztG rfl rfl (zc rfl (vcells_eq v ▸ check_z name v _ hl hm hw)) ?_
      refine ztG rfl rfl (zc rfl (code_k 10 _ (by decide) (by decide))) ?_
      refine ztG rfl rfl (op_eqlT rfl rfl rfl rfl) ?_
      refine zv2 ?_
      refine zrt ?_
      exact ResQ_1 rfl hcl trivial (Ret_of rfl)
   ·(try rw [h3]); replace h3 := zcl h3
    refine AWp_skip ?_
    refine zu1 ?_
    refine zt rfl (zc rfl (vcells_eq v ▸ check_c ⟨#[97, 108, 108, 79, 102]⟩ v _ hl hm hw)) ?_
    refine zt rfl (op_eqCerv rfl Tryd.underlying26 rfl) ?_
    refine zv1 ?_
    refine zu1 ?_
    refine zt rfl (zc rfl (vcells_eq v ▸ check_c ⟨#[112, 114, 111, 112, 101, 114, 116, 105, 101, 115]⟩ v _ hl hm hw)) ?_
    refine zt rfl (op_eqCerv rfl Tryd.underlying26 rfl) ?_
    refine zv1 ?_
    refine zu4 ?_
    refine ztG rfl rfl (zc rfl (vcells_eq v ▸ check_to ⟨#[97, 108, 108, 79, 102]⟩ ⟨#[97, 110, 121, 79, 102]⟩ v _ hl hm hw (rShape_as v (by decide +kernel)))) ?_
    refine ztG rfl rfl (op_eqCerv rfl Tryd.underlying26 rfl) ?_
    refine ztG rfl rfl (op_beqlS rfl Tryd.underlying4 rfl rfl) ?_
    refine zg4 ?_
    refine ztG rfl rfl (zc rfl (vcells_eq v ▸ check_to ⟨#[97, 108, 108, 79, 102]⟩ ⟨#[111, 110, 101, 79, 102]⟩ v _ hl hm hw (rShape_as v (by decide +kernel)))) ?_
    refine ztG rfl rfl (op_eqCerv rfl Tryd.underlying26 rfl) ?_
    refine ztG rfl rfl (op_beqlS rfl Tryd.underlying4 rfl rfl) ?_
    refine zg4 ?_
    refine ztG rfl rfl (zc rfl (vcells_eq v ▸ check_to ⟨#[112, 114, 111, 112, 101, 114, 116, 105, 101, 115]⟩ ⟨#[36, 100, 101, 102, 115]⟩ v _ hl hm hw (rShape_as v (by decide +kernel)))) ?_
    refine ztG rfl rfl (op_eqCerv rfl Tryd.underlying26 rfl) ?_
    refine ztG rfl rfl (op_beqlS rfl Tryd.underlying4 rfl rfl) ?_
    refine zg3 ?_
    refine ztG rfl rfl (zc rfl (vcells_eq v ▸ check_const v _ hl hm hw)) ?_
    have hz1 : (ByteArray.mk #[122]).size = 1 := rfl
    have hz2 := ByteArray.size_append (a := ⟨#[122]⟩) (b := name)
    refine zg6 ?_
    refine ztG rfl rfl (zc rfl (vcells_eq v ▸ check_z name v _ hl hm hw)) ?_
    refine ztG rfl rfl (zc rfl (code_k 10 _ (by decide) (by decide))) ?_
    refine ztG rfl rfl (op_eqlT rfl rfl rfl rfl) ?_
    refine zv2 ?_
    refine zrt ?_
    exact ResQ_1 rfl hcl trivial (Ret_of rfl)
end Lg
set_option maxRecDepth 100000
set_option maxHeartbeats 4000000
namespace Go.Proofs.YtnnmpiagmpbebaaDoor
open Go Go.ChangeShapes Go.WideShapes Go.ChangeAt Go.RowKit Go.Lib
open Go.ChangeMaps (open_string shut_string)
noncomputable def shapeKids_lw (os : Os) : World := World.laidAll Tryd.prog os Rows.shapeKidsRow.laid
theorem shapeKids_pl : (Rows.shapeKidsRow.laid.all fun x => x.2.handleName?.isNone) = true := by kernel_rfl
theorem shapeKids_mh (os : Os) (args : Array Value) : laidMetH Tryd.prog Rows.shapeKidsRow.laid ((shapeKids_lw os).forCall (fun _ _ => 0) ⟨#[], args, []⟩).memory := by
  rw [MakeChecks.laidMetH_plain _ _ _ shapeKids_pl]; exact laidMet_laidAll _ (by kernel_rfl) (by kernel_rfl)
theorem shapeKids_lifted (os : Os) (started : os.Started) (H : Type) (enc : TypeId × Value → H) :
    ReturnsInHanded {} Tryd.checked os 6 .any (fun w args => (Rows.shapeKidsSpec.pre enc Tryd.prog Tryd.f6 [] false w args ∧ laidMetH Tryd.prog Rows.shapeKidsRow.laid w) ∧ sizedMet enc Tryd.prog Tryd.f6 (OpenSpec.ofChange Rows.shapeKidsSpec) false w args)
      (Rows.shapeKidsSpec.post enc Tryd.prog Tryd.f6 false true false false) := by
  refine returnsInHanded_of_change_and (C := Tryd.checked) (X := fun w _ => laidMetH Tryd.prog Rows.shapeKidsRow.laid w) (fun _ _ _ hh h => h.of_heap hh) own started (by kernel_rfl) Tryd.func6
    (ChangeSpec.witness_shaped (enc := enc) (C := Tryd.checked) (os := os) (X := fun w _ => laidMetH Tryd.prog Rows.shapeKidsRow.laid w) false (shapeKids_lw os) #[.string ⟨#[]⟩, .string ⟨#[]⟩] 8 (World.laidAll_os _ _ _)
      (World.shaped_of_ZipB (by kernel_rfl) (by kernel_rfl)) (by kernel_rfl) (by kernel_rfl) (by kernel_rfl) (shapeKids_mh os _)) ?_
  intro W base args ds gs before hval0 hW hz0 hz hL _
  have hval : ∀ (j : Nat) t v, Tryd.f6.params[j]? = some t → args[j]? = some v → Value.okWide Tryd.prog W .any base t v := hval0
  have hW' := hW
  obtain ⟨p, q, hA0, hV, rfl, hfz, hnd⟩ := hW
  have hA : DataW.TrodAll enc Tryd.prog W 0 (fun _ => true) true Tryd.f6.params.toList args.toList ds p := hA0
  rw [Tryd.params6] at hA hval hz
  obtain ⟨v0, vs0, d0, ds0, p0, q0, hargs, rfl, rfl, h0, r0⟩ := trodAll_cons hA
  obtain ⟨v1, vs1, d1, ds1, p1, q1, rfl, rfl, rfl, h1, r1⟩ := trodAll_cons r0
  obtain ⟨rfl, rfl, rfl⟩ := trodAll_nil r1
  obtain rfl : args = #[v0, v1] := by cases args; simp_all
  obtain ⟨rfl, rfl⟩ := trodVars_none hV
  obtain ⟨x0, rfl, rfl, rfl, w0⟩ := open_string Tryd.underlying9 (hval 0 9 v0 rfl rfl) h0
  obtain ⟨x1, rfl, rfl, rfl, w1⟩ := open_string Tryd.underlying9 (hval 1 9 v1 rfl rfl) h1
  clear hA0 hval0
  simp only [List.append_nil] at hW'
  have hT_s10 := s10_of shapeKids_pl hL (by kernel_rfl)
  have hcall := Lg.calls_of (P := Tryd.prog) (f := 6) (args := [.str x0, .str x1]) (cargs := [.string x0, .string x1]) (W := W)
    (fun st => (.cons (.str _) (.cons (.str _) .nil)))
    (fun hg => by haveI := Lg.S10.of hT_s10 hg; exact Lg.shapeKids_c x0 x1 [] )
  refine hcall.mono fun e W' ⟨he, hg⟩ => ?_
  subst he
  refine ⟨_, rfl, _, _, _, [], [], [], hW', trodAll_mk1 (shut_bool Tryd.underlying4 _), ?_, rfl, hg.frame _, fun h => by cases h⟩
  exact (trodAll_cons_mk (shut_string Tryd.underlying9 w0) (trodAll_cons_mk (shut_string Tryd.underlying9 w1) trodAll_mk0))
theorem shapeKids_holds : Rows.ShapeKidsSaid :=
  OpenClaim.holds_of_wide 6 Tryd.f6 rfl rfl rfl rfl rfl rfl rfl ⟨rfl, rfl, rfl, rfl, rfl⟩ rfl rfl rfl rfl rfl (by kernel_rfl) Tryd.func6 (by kernel_rfl)
    (of_decide_eq_true (by kernel_rfl)) (by unfold Func.isWrapper; first | (rw [if_pos (by decide +kernel)]; kernel_rfl) | (rw [if_neg (by decide +kernel)]; exact ⟨rfl, rfl⟩))
    (fun os started H enc _ => shapeKids_lifted os started H enc)
end Go.Proofs.YtnnmpiagmpbebaaDoor
