/- A part of the proof of For every input the law doubletlaw09.ApplyTells returns true: what comes of any value by any patch, or what is amiss, at which operation, is what the document's answer says; the input reads as it did.: Q6 J6 VAt. -/
import Derived.Test.YtdacoelmmaiffaaGreatDoorR10
import Derived.Test.YtdacoelmmaiffaaGreatDoorR5
import Derived.Test.YtdacoelmmaiffaaGreatDoorR4
import Derived.Test.YtdacoelmmaiffaaGreatDoorR8
import Derived.SizedLaws
import Derived.LaidHandle
set_option linter.unusedVariables false
set_option linter.unusedSimpArgs false
set_option linter.unusedSectionVars false
set_option maxRecDepth 20000
set_option maxHeartbeats 4000000
namespace Lg
open Go Go.Proofs Go.RowKit
variable [GLay] 
theorem rread_c (v : JV) (cs : List AV) (σ : List AO) (hc : vcells v = cs) (hjb : jb v) : ACalls Tryz.prog 52 [.agg cs] σ (Ret (.tup [.sl false 11 (orows (jrd v)), .int .i64 (jrdC v), .int .i64 (jrdA v)]) σ) := by
 obtain ⟨hb1, hb2, hb3, hb4, hb5, hb6⟩ := (jb_eq v).1 hjb
 refine ACalls_body Tryz.func52 rfl Tryz.ntmps52 (res3 Tryz.results52) (Nat.le_of_ble_eq_true rfl) (fun hcl hal => ?_)
 subst hc
 rw [vcells_eq v]
 have hll0 := lcells_length v.l
 refine zw4 ?_
 refine AWp_seq ?_
 refine zw3 ?_
 refine AWp_cond rfl (fun h1 => ?_) (fun h1 => ?_)
 ·(try rw [h1]); replace h1 := zcl h1
  refine zw3 ?_
  refine AWp_slotLe 2 rfl (AVle.nils false 11) ?_ (by decide)
  refine zrt ?_
  have hq := jrd_k4 h1
  rw [hq.1, hq.2.1, hq.2.2]
  exact ResQ_3 rfl rfl rfl hcl (by simp [AV.lt, AV.ltL, AV.ltLL]) (Ret_of rfl)
 ·(try rw [h1]); replace h1 := zcl h1
  refine AWp_skip ?_
  refine AWp_seq ?_
  refine zw4 ?_
  refine AWp_cond rfl (fun h2 => ?_) (fun h2 => ?_)
  ·(try rw [h2]); replace h2 := zcl h2
   refine zw3 ?_
   refine AWp_slotLe 2 rfl (AVle.nils false 11) ?_ (by decide)
   refine zrt ?_
   have hq := jrd_many h1 (by omega)
   rw [hq.1, hq.2.1, hq.2.2]
   exact ResQ_3 rfl rfl rfl hcl (by simp [AV.lt, AV.ltL, AV.ltLL]) (Ret_of rfl)
  ·(try rw [h2]); replace h2 := zcl h2
   refine AWp_skip ?_
   refine zw1 ?_
   refine AWp_seq ?_
   refine AWp_seq ?_
   refine AWp_ghostTO 5 11 1 rfl rfl ?_ (by decide)
   refine AWp_regL ?_
   refine zv1 ?_
   refine AWp_block ?_
   -- loop 0 LIVE 1:box 2:assign 3:assign 4:assign 5:assign 6:assign
   refine AWp_loop (ι := Nat × List JOp) (fun z => z.1 ≤ v.l.length ∧ jops (v.l.take z.1) = some z.2) (fun z => ⟨[], [(1, .ptr (σ.length + 0) 0), (5, .arr (σ.length + 1) z.1 11 0 z.1), (6, .int .i64 (z.1 : Int))]⟩) (fun z => σ ++ [.box [.int .i64 v.kind, .bool v.b, .bool v.n.neg, .str v.n.digits, .int .i64 v.n.exp, .str v.s, .sl false 8 (lcells v.l), .sl false 9 (mcells v.m)], .arr 11 z.1 (orows z.2).flatten]) (fun z => v.l.length - z.1) ((0, [])) (⟨Nat.zero_le _, rfl⟩) ?_ rfl (fun z hz => ?_)
   ·repeat' first | rfl | trivial | constructor
   obtain ⟨i, os⟩ := z
   obtain ⟨hi1, hos⟩ := hz
   simp only at hi1 hos ⊢
   have hol : os.length = i := by have := jops_len hos; rw [List.length_take] at this; omega
   have hll := lcells_length v.l
   refine AWp_seq ?_
   refine zw5 ?_
   refine AWp_cond rfl (fun h3 => ?_) (fun h3 => ?_)
   ·(try rw [h3]); replace h3 := zcl h3
    obtain ⟨x, hx⟩ : ∃ x, v.l[i]? = some x := ⟨_, List.getElem?_eq_getElem (show i < v.l.length by omega)⟩
    refine AWp_skip ?_
    refine AWp_seq ?_
    refine AWp_block ?_
    refine zu4 ?_
    rw [vcells_eq x]
    refine zg1 ?_
    refine ztR rfl (zcR rfl (vcells_eq x ▸ OpR.strong (rop_c x _ _ rfl (lb_get hb5 hx)))) (fun v9_5 s9_5 hr => ?_) (fun v9_5 s9_5 hr => ?_)
    rotate_left
    ·obtain ⟨_, _, _, hv, _⟩ := hr; cases hv
    obtain ⟨hh, xo, ob, hv, ht, hf⟩ := hr
    cases hv
    subst hh
    rw [ocells_eq xo]
    refine zv6 ?_
    refine AWp_seq ?_
    refine zw2 ?_
    refine AWp_cond rfl (fun h4 => ?_) (fun h4 => ?_)
    ·(try rw [h4]); replace h4 := zcl h4
     have hxn := hf (by simpa using h4)
     refine zw4 ?_
     refine AWp_slotLe 2 rfl (AVle.nils false 11) ?_ (by decide)
     refine zrt ?_
     have hq := jrd_bad h1 (by omega) hos hx hxn
     rw [hq.1, hq.2.1, hq.2.2]
     exact ResQ_3 rfl rfl rfl hcl (by simp [AV.lt, AV.ltL, AV.ltLL]) (Ret_of rfl)
    ·(try rw [h4]); replace h4 := zcl h4
     have hob : ob = true := by simpa using h4
     subst hob
     refine AWp_skip ?_
     refine AWp_regL ?_
     refine zg2 ?_
     refine zt rfl (op_buildSlice [[_, _, _, _, _, _, _, _, _, _, _]] rfl Tryz.underlying47 Tryz.sizeOf58 Tryz.zeroValue58 rfl (by decide) (by decide) rfl rfl rfl rfl rfl) ?_
     refine zt rfl (op_appendArrT rfl 1 (sz := 11) (m := 1) (len := i) (cs := _) rfl (.inr ⟨_, rfl⟩) Tryz.underlying47 Tryz.underlying47 Tryz.type58 rfl rfl rfl (by decide) rfl rfl (by rw [oflat_len, hol]) rfl rfl rfl (by show (i + 1) * 168 ≤ _; omega) (by omega) rfl) ?_
     refine zv1 ?_
     refine AWp_regL ?_
     refine zv3 ?_
     have hos2 : jops (v.l.take (i + 1)) = some (os ++ [xo]) := by rw [ltake_succ hx, jops_snoc hos, ht rfl]; rfl
     refine ⟨(i + 1, os ++ [xo]), σ.length + 2, ⟨by simp only; omega, hos2⟩, by simp only; omega, by simp, ⟨rfl, rfl, rfl, rfl, trivial⟩, closed_own 2 hcl ?_, ?_, ?_⟩
     ·simp [ownLt, AO.cells, AV.ltL, AV.lt, ltL_append]
     ·simp [ltE, AV.lt, AV.ltL]
     ·refine (take_own 2).trans ?_
      rw [orows_snoc, ocells_eq xo]; rfl
   ·(try rw [h3]); replace h3 := zcl h3
    refine AWp_exit ?_
    refine AWp_seq ?_
    have hie : i = v.l.length := by omega
    subst hie
    rw [List.take_length] at hos
    refine AWp_freezeAO 5 1 v.l.length 11 v.l.length (orows os) rfl rfl (orows_el _) (by rw [orows_len]; exact hol) (by decide) ?_ (by decide)
    refine AWp_regL ?_
    refine zv4 ?_
    refine zrt ?_
    have hq := jrd_ok h1 (by omega) hos
    rw [hq.1, hq.2.1, hq.2.2]
    exact ResQ_3 rfl rfl rfl hcl (by simp [AV.lt, AV.ltL]) (Ret_of rfl)
end Lg
set_option maxRecDepth 20000
set_option maxHeartbeats 4000000
namespace Lg
open Go Go.Proofs Go.RowKit
variable [GLay]  [ET]
theorem opsL_c (s : ByteArray) (σ : List AO) : ACalls Tryz.prog 23 [.str s] σ (Ret (.tup [.sl false 11 (orows (opQ s).1), .int .i64 (opQ s).2]) σ) := by
 refine ACalls_body Tryz.func23 rfl Tryz.ntmps23 (res2 Tryz.results23) (Nat.le_of_ble_eq_true rfl) (fun hcl hal => ?_)
 have hva := rValue_ok s
 refine zw2 ?_
 refine zu1 ?_
 refine zt rfl (zc rfl (value_c s _)) ?_
 rw [vcells_eq (rValue s).1]
 refine zv6 ?_
 refine AWp_seq ?_
 refine zw2 ?_
 refine AWp_cond rfl (fun h1 => ?_) (fun h1 => ?_)
 ·(try rw [h1]); replace h1 := zcl h1
  refine zw2 ?_
  refine AWp_slotLe 2 rfl (AVle.nils false 11) ?_ (by decide)
  refine zrt ?_
  rw [opQ_0 h1]
  exact ResQ_2 rfl rfl hcl (by simp [AV.lt, AV.ltL, AV.ltLL]) ⟨rfl, rfl⟩
 ·(try rw [h1]); replace h1 := zcl h1
  have hjb : jb (rValue s).1 := by
   rcases hva with h | h
   ·exact absurd h.1 h1
   ·exact h.2.2.1
  refine AWp_skip ?_
  refine zu1 ?_
  refine zt rfl (zc rfl (rread_c (rValue s).1 _ _ (vcells_eq _) hjb)) ?_
  refine zv7 ?_
  refine AWp_seq ?_
  refine zw2 ?_
  refine AWp_cond rfl (fun h2 => ?_) (fun h2 => ?_)
  ·(try rw [h2]); replace h2 := zcl h2
   refine zw2 ?_
   refine AWp_slotLe 2 rfl (AVle.nils false 11) ?_ (by decide)
   refine zrt ?_
   rw [opQ_b h1 h2]
   exact ResQ_2 rfl rfl hcl (by simp [AV.lt, AV.ltL, AV.ltLL]) ⟨rfl, rfl⟩
  ·(try rw [h2]); replace h2 := zcl h2
   refine AWp_skip ?_
   refine zw3 ?_
   refine zrt ?_
   rw [opQ_y h1 h2]
   exact ResQ_2 rfl rfl hcl (by simp [AV.lt, AV.ltL]) ⟨rfl, rfl⟩

theorem parse9v_c (σ : List AO) : ACalls Tryz.prog 30 [.str ⟨#[123, 34, 97, 34, 58, 91, 49, 93, 125]⟩] σ (Ret (.tup [.agg (vcells (rParse ex9v).1), .int .i64 (rParse ex9v).2.1, .int .i64 (rParse ex9v).2.2]) σ) := parse_c ex9v σ (by decide)
theorem parse9w_c (σ : List AO) : ACalls Tryz.prog 30 [.str ⟨#[123, 34, 98, 34, 58, 91, 49, 93, 125]⟩] σ (Ret (.tup [.agg (vcells (rParse ex9w).1), .int .i64 (rParse ex9w).2.1, .int .i64 (rParse ex9w).2.2]) σ) := parse_c ex9w σ (by decide)
theorem ops9_c (σ : List AO) : ACalls Tryz.prog 23 [.str ⟨#[91, 123, 34, 111, 112, 34, 58, 34, 109, 111, 118, 101, 34, 44, 34, 102, 114, 111, 109, 34, 58, 34, 47, 97, 34, 44, 34, 112, 97, 116, 104, 34, 58, 34, 47, 98, 34, 125, 44, 123, 34, 111, 112, 34, 58, 34, 116, 101, 115, 116, 34, 44, 34, 112, 97, 116, 104, 34, 58, 34, 47, 98, 47, 48, 34, 44, 34, 118, 97, 108, 117, 101, 34, 58, 50, 125, 93]⟩] σ (Ret (.tup [.sl false 11 (orows (jrd (rParse ex9p).1)), .int .i64 1]) σ) := by
  have h := opsL_c ex9p σ
  rw [ex9_q] at h; exact h
theorem papE_c (l : List JOp) (f : Bool) (es : List (List AV)) (he : es = orows l) (hl : l.length ≤ 1000000) (hob : ∀ o ∈ l, OPB o) (v : JV) (cs : List AV) (σ : List AO) (hc : vcells v = cs) (hjb : jb v) (hst : jst v) (hsz : jsize v ≤ 3000) : ACalls Tryz.prog 24 [.agg cs, .sl f 11 es] σ (Ret (.tup [.agg (vcells (jap l v 0).1), errV (jE (jap l v 0))]) σ) := by
  subst he; exact pap_c l f hl hob v cs σ hc hjb hst hsz
theorem jap_at0 : ∀ (l : List JOp) (v : JV) (i : Nat), (jap l v i).2.1 = 0 → (jap l v i).2.2 = 0
  | [], v, i, _ => rfl
  | o :: r, v, i, h => by
    by_cases hc : jchk (jdo v o) = 0
    · rw [jap_ok hc] at h ⊢; exact jap_at0 r _ _ h
    · rw [jap_bad rfl hc] at h; exact absurd h hc
theorem spotJ_c (r : JV × Int × Int) (σ : List AO) (h : r.2.1 = 0 → r.2.2 = 0) : ACalls Tryz.prog 26 [errV (jE r)] σ (Ret (.tup [.int .i64 r.2.1, .int .i64 r.2.2]) σ) := by
  by_cases h0 : r.2.1 = 0
  · rw [jE_n h0, h0, h h0]; exact spot_0 σ
  · rw [jE_s h0]; exact spot_s _ _ σ
theorem up9_c (σ : List AO) : ACalls Tryz.prog 22 [] σ (Ret (.bool true) σ) := by
 refine ACalls_body Tryz.func22 rfl Tryz.ntmps22 (res1 Tryz.results22) (Nat.le_of_ble_eq_true rfl) (fun hcl hal => ?_)
 refine zw1 ?_
 refine zsr ?_
 refine zt rfl (zc rfl (parse9v_c _)) ?_
 have hq2 := ex9_2
 have hq3 := ex9_3
 have hq4 := jq_eq ex9_4
 obtain ⟨hmy, hjb, hjz⟩ := rParse_ok ex9v ex9_0.1
 have hjz : jsize (rParse ex9v).1 ≤ 3000 := Int.le_trans hjz.1 (show ((ex9v.size : Nat) : Int) + 2 ≤ 3000 by decide)
 have hst := may_st hmy
 generalize (rParse ex9v).1 = v at hq2 hq3 hq4 hst hjb hjz ⊢
 rw [vcells_eq v]
 refine zv8 ?_
 refine zsr ?_
 refine zt rfl (zc rfl (ops9_c _)) ?_
 have hob := opQ_ok ex9p
 rw [ex9_q] at hob
 simp only at hob
 have hlen := ex9_1.2
 generalize jrd (rParse ex9p).1 = l at hob hlen hq2 hq3 hq4 ⊢
 have hol := orows_len l
 refine zv5 ?_
 refine zu2 ?_
 refine zt rfl (zc rfl (pap_c l _ (by omega) hob.2 v _ _ (vcells_eq v) hjb hst hjz)) ?_
 rw [vcells_eq (jap l v 0).1]
 refine zv6 ?_
 refine AWp_seq ?_
 refine AWp_heap (σ' := σ ++ [.box [.int .i64 v.kind, .bool v.b, .bool v.n.neg, .str v.n.digits, .int .i64 v.n.exp, .str v.s, .sl false 8 (lcells v.l), .sl false 9 (mcells v.m)], .box [.int .i64 (jap l v 0).1.kind, .bool (jap l v 0).1.b, .bool (jap l v 0).1.n.neg, .str (jap l v 0).1.n.digits, .int .i64 (jap l v 0).1.n.exp, .str (jap l v 0).1.s, .sl false 8 (lcells (jap l v 0).1.l), .sl false 9 (mcells (jap l v 0).1.m)]]) rfl ?_
 refine AWp_drawL #[0, 0, 0, 4, 12, 30, 63, 127, 255, 255, 0, 1535, 4095] Tryz.mixed (by decide +kernel) (by decide +kernel) ?_
 refine zp1 ?_
 refine zd4 ?_
 refine yA rfl rfl (fun _ => (by first | exact op_sliceSl _ _ rfl Tryz.underlying47 Tryz.sizeOf58 rfl (by first | exact ⟨_, rfl⟩ | rfl) (by first | exact ⟨_, rfl⟩ | rfl) (by omega) (by omega) (by omega) | exact op_sliceArr _ _ rfl Tryz.underlying47 Tryz.sizeOf58 rfl GET (by first | exact ⟨_, rfl⟩ | rfl) (by first | exact ⟨_, rfl⟩ | rfl) (by omega) (by omega) (by omega))) ?_
 have hes : ((orows l).drop 0).take ((min ((orows l).length : Int) 1).toNat - Int.toNat 0) = orows (l.take 1) := by rw [hol, hlen, show ((min ((2 : Nat) : Int) 1).toNat - Int.toNat 0) = 1 by decide]; simp [orows, List.map_take]
 refine yP rfl rfl (zc rfl (papE_c (l.take 1) _ _ hes (by rw [List.length_take]; omega) (fun o ho => hob.2 o (List.mem_of_mem_take ho)) v _ _ (vcells_eq v) hjb hst hjz)) (trivial) ?_
 rw [jE_n hq3, hq4, vcells_eq (rParse ex9w).1]
 refine zd3 ?_
 refine yE rfl rfl (zoa) (⟨.inr (by rw [← vcells_eq (rParse ex9w).1, ← hq4, ← jE_n hq3]; exact zc rfl (papE_c (l.take 1) _ _ hes (by rw [List.length_take]; omega) (fun o ho => hob.2 o (List.mem_of_mem_take ho)) v _ _ (vcells_eq v) hjb hst hjz)), ⟨.inr zoa, trivial⟩⟩) (trivial) ?_
 refine yEN rfl rfl rfl (zoa) (⟨.inl rfl, ⟨.inl rfl, trivial⟩⟩) (⟨rfl, trivial⟩) ?_
 refine zd1 ?_
 refine RP.nil rfl ?_
 refine zsr ?_
 refine zt rfl (zc rfl (parse9w_c _)) ?_
 have hjw := (rParse_ok ex9w ex9_0.2.1).2.1
 generalize (rParse ex9w).1 = w at hjw ⊢
 rw [vcells_eq w]
 refine zv8 ?_
 refine AWp_seq ?_
 refine AWp_heap (σ' := σ ++ [.box [.int .i64 v.kind, .bool v.b, .bool v.n.neg, .str v.n.digits, .int .i64 v.n.exp, .str v.s, .sl false 8 (lcells v.l), .sl false 9 (mcells v.m)], .box [.int .i64 (jap l v 0).1.kind, .bool (jap l v 0).1.b, .bool (jap l v 0).1.n.neg, .str (jap l v 0).1.n.digits, .int .i64 (jap l v 0).1.n.exp, .str (jap l v 0).1.s, .sl false 8 (lcells (jap l v 0).1.l), .sl false 9 (mcells (jap l v 0).1.m)], .box [.int .i64 w.kind, .bool w.b, .bool w.n.neg, .str w.n.digits, .int .i64 w.n.exp, .str w.s, .sl false 8 (lcells w.l), .sl false 9 (mcells w.m)], .box [.int .i64 w.kind, .bool w.b, .bool w.n.neg, .str w.n.digits, .int .i64 w.n.exp, .str w.s, .sl false 8 (lcells w.l), .sl false 9 (mcells w.m)]]) rfl ?_
 refine AWp_regL ?_
 refine zg1 ?_
 refine zt rfl (zc rfl (spotJ_c (jap l v 0) _ (jap_at0 l v 0))) ?_
 rw [hq2]
 refine zv5 ?_
 refine zu2 ?_
 refine zt rfl (zc rfl (rsameQ_c w _ _ (vcells_eq w) hjw)) ?_
 refine zv1 ?_
 refine zu1 ?_
 refine zt rfl (op_eqlT rfl rfl rfl rfl) ?_
 refine zg2 ?_
 refine ztG rfl rfl (op_eqlT rfl rfl rfl rfl) ?_
 refine zv9 ?_
 refine zrt ?_
 exact ResQ_1 rfl hcl (by simp [AV.lt, AV.ltL]) ⟨rfl, rfl⟩

theorem applyTells_c (s p : ByteArray) (σ : List AO) : ACalls Tryz.prog 5 [.str s, .str p] σ (Ret (.bool true) σ) := by
 refine ACalls_body Tryz.func5 rfl Tryz.ntmps5 (res1 Tryz.results5) (Nat.le_of_ble_eq_true rfl) (fun hcl hal => ?_)
 have hva := rValue_ok s
 have hoq := opQ_ok p
 refine zw1 ?_
 refine zsr ?_
 refine zt rfl (zc rfl (up9_c _)) ?_
 refine zv1 ?_
 refine zu1 ?_
 refine zt rfl (zc rfl (value_c s _)) ?_
 generalize (rValue s).1 = v at hva ⊢
 generalize (rValue s).2 = ok at hva ⊢
 rw [vcells_eq v]
 refine zv6 ?_
 refine zu1 ?_
 refine zt rfl (zc rfl (opsL_c p _)) ?_
 generalize (opQ p).1 = l at hoq ⊢
 generalize (opQ p).2 = ok2
 refine zv5 ?_
 refine AWp_seq ?_
 refine zu3 ?_
 refine zsp 31 rfl (fun h1 => ?_) fun h1 => ?_
 ·rw [h1]; replace h1 := zcl h1
  refine zv3 ?_
  refine AWp_condT rfl ?_
  refine zw2 ?_
  refine zrt ?_
  exact ResQ_1 rfl hcl (by simp [AV.lt, AV.ltL]) ⟨rfl, rfl⟩
 ·rw [h1]; replace h1 := zcl h1
  refine zv3 ?_
  refine AWp_cond rfl (fun h2 => ?_) (fun h2 => ?_)
  ·(try rw [h2]); replace h2 := zcl h2
   refine zw2 ?_
   refine zrt ?_
   exact ResQ_1 rfl hcl (by simp [AV.lt, AV.ltL]) ⟨rfl, rfl⟩
  ·(try rw [h2]); replace h2 := zcl h2
   obtain ⟨hmy, hjv, hsv⟩ : jmay v ∧ jb v ∧ jsize v ≤ 2002 := by
    rcases hva with ⟨h, _⟩ | ⟨_, h⟩
    ·exfalso; omega
    ·exact h
   have hst := may_st hmy
   have hsz : jsize v ≤ 3000 := by omega
   have hja := (jap_wf l v 0 hoq.2 hjv hst hsz).1
   refine AWp_skip ?_
   refine zu2 ?_
   refine zt rfl (zc rfl (pap_c l _ (by omega) hoq.2 v _ _ (vcells_eq v) hjv hst hsz)) ?_
   rw [vcells_eq (jap l v 0).1]
   refine zv6 ?_
   refine zu2 ?_
   refine zt rfl (zc rfl (rap_c l _ (by omega) hoq.2 v _ _ (vcells_eq v) hjv hst hsz)) ?_
   rw [vcells_eq (jap l v 0).1]
   refine zv8 ?_
   refine zu1 ?_
   refine zt rfl (zc rfl (spotJ_c (jap l v 0) _ (jap_at0 l v 0))) ?_
   refine zv5 ?_
   refine zu2 ?_
   refine zt rfl (zc rfl (rsameQ_c (jap l v 0).1 _ _ (vcells_eq _) hja)) ?_
   refine zv1 ?_
   refine zu7 ?_
   refine ztG rfl rfl (op_eqlT rfl rfl rfl rfl) ?_
   refine zg4 ?_
   refine ztG rfl rfl (op_eqlT rfl rfl rfl rfl) ?_
   refine zv2 ?_
   refine zrt ?_
   exact ResQ_1 rfl hcl (by simp [AV.lt, AV.ltL]) ⟨rfl, rfl⟩
end Lg
set_option maxRecDepth 100000
set_option maxHeartbeats 4000000
namespace Go.Proofs.YtdacoelmmaiffaaGreatDoor
open Go Go.ChangeShapes Go.WideShapes Go.ChangeAt Go.RowKit Go.Lib
open Go.ChangeMaps (open_string shut_string)
noncomputable def applyTells_w0 (os : Os) : World :=
  let w0 := World.holding Tryz.prog os ⟨#[], #[], []⟩
  { w0 with heap := w0.heap.modify 0 fun
      | .cells _ t frozen => .cells #[.iface 152 (.agg #[.pointer (some ⟨9, 35, none⟩)])] t frozen
      | o => o }
noncomputable def applyTells_ln : List (String × DataW Unit) := Rows.applyTellsRow.laid.filter fun x => x.2.handleName?.isNone
noncomputable def applyTells_lw (os : Os) : World := (applyTells_w0 os).layVars Tryz.prog applyTells_ln
theorem applyTells_lw_os (os : Os) : (applyTells_lw os).os = os := by unfold applyTells_lw; rw [World.layVars_os]; rfl
theorem applyTells_mh (os : Os) (args : Array Value) : laidMetH Tryz.prog Rows.applyTellsRow.laid ((applyTells_lw os).forCall (fun _ _ => 0) ⟨#[], args, []⟩).memory := by
  have e1 : (applyTells_ln.filter fun x => (applyTells_ln.map (·.1)).contains x.1) = applyTells_ln := List.filter_eq_self.2 fun x hx => List.contains_iff_mem.2 (List.mem_map.2 ⟨x, hx, rfl⟩)
  have e2 : (applyTells_ln.filter fun x => !(applyTells_ln.map (·.1)).contains x.1) = [] := List.filter_eq_nil_iff.2 fun x hx => by rw [List.contains_iff_mem.2 (List.mem_map.2 ⟨x, hx, rfl⟩)]; simp
  have h : laidMet Tryz.prog applyTells_ln (applyTells_lw os) := laidMet_layVars (w0 := applyTells_w0 os) (applyTells_ln.map (·.1)) [] (by rw [e1]; rfl) (by rw [e1]; kernel_rfl) (by rw [e1]; kernel_rfl) (by rw [e2]; exact LaidIn.none)
  refine laidMetH_of_parts (h.of_heap (by simp [World.memory, World.forCall, Input.heap])) (by kernel_rfl)
theorem applyTells_rt : (Tryz.prog.cutTypes.find? (·.1 == "internal/reflectlite.rtype")).map (·.2) = some 152 := by kernel_rfl
theorem applyTells_one : ((List.range 286).filter fun t => Tryz.prog.rowNamed t [101, 114, 114, 111, 114]) = [35] := by kernel_rfl
theorem applyTells_nt : Tryz.prog.types.size = 286 := by kernel_rfl
theorem applyTells_gn : Tryz.prog.globalNamed "errors.errorType" = some 0 := by kernel_rfl
theorem applyTells_et {W : World} (h : laidMetH Tryz.prog Rows.applyTellsRow.laid W) : W.cell? ⟨0, 0, none⟩ = some (.iface 152 (.agg #[.pointer (some ⟨9, 35, none⟩)])) := by
  have h' : laidMet Tryz.prog (Rows.applyTellsRow.laid.filter fun x => x.2.handleName?.isNone) W ∧ handlesMet Tryz.prog (Rows.applyTellsRow.laid.filter fun x => x.2.handleName?.isSome) W := h
  obtain ⟨name, u, ty, e1, e2, e3, e4, e5⟩ := h'.2 ("errors.errorType", Rows.laid_errors_errorType) (List.mem_filter.2 ⟨by simp [Rows.applyTellsRow], rfl⟩)
  have en : name = [101, 114, 114, 111, 114] := (Option.some.inj e1).symm
  subst en
  obtain rfl := Option.some.inj (applyTells_rt.symm.trans e2)
  have hm : ty ∈ (List.range 286).filter fun t => Tryz.prog.rowNamed t [101, 114, 114, 111, 114] := List.mem_filter.2 ⟨List.mem_range.2 (by rw [← applyTells_nt]; exact e3), e4⟩
  rw [applyTells_one] at hm
  obtain rfl := List.mem_singleton.1 hm
  have hh : typeHandle Tryz.prog 35 = .pointer (some ⟨9, 35, none⟩) := by kernel_rfl
  rw [hh] at e5
  simpa using World.var?_cell applyTells_gn e5 0
theorem applyTells_lifted (os : Os) (started : os.Started) (H : Type) (enc : TypeId × Value → H) :
    ReturnsInHanded {} Tryz.checked os 5 .any (fun w args => (Rows.applyTellsSpec.pre enc Tryz.prog Tryz.f5 [] false w args ∧ laidMetH Tryz.prog Rows.applyTellsRow.laid w) ∧ sizedMet enc Tryz.prog Tryz.f5 (OpenSpec.ofChange Rows.applyTellsSpec) false w args)
      (Rows.applyTellsSpec.post enc Tryz.prog Tryz.f5 false true false false) := by
  refine returnsInHanded_of_change_and (C := Tryz.checked) (X := fun w _ => laidMetH Tryz.prog Rows.applyTellsRow.laid w) (fun _ _ _ hh h => h.of_heap hh) own started (by kernel_rfl) Tryz.func5
    (ChangeSpec.witness_shaped (enc := enc) (C := Tryz.checked) (os := os) (X := fun w _ => laidMetH Tryz.prog Rows.applyTellsRow.laid w) false (applyTells_lw os) #[.string ⟨#[]⟩, .string ⟨#[]⟩] 8 (applyTells_lw_os os)
      (World.shaped_of_ZipB (by kernel_rfl) (by kernel_rfl)) (by kernel_rfl) (by kernel_rfl) (by kernel_rfl) (applyTells_mh os _)) ?_
  intro W base args ds gs before hval0 hW hz0 hz hL _
  have hval : ∀ (j : Nat) t v, Tryz.f5.params[j]? = some t → args[j]? = some v → Value.okWide Tryz.prog W .any base t v := hval0
  have hW' := hW
  obtain ⟨p, q, hA0, hV, rfl, hfz, hnd⟩ := hW
  have hA : DataW.TrodAll enc Tryz.prog W 0 (fun _ => true) true Tryz.f5.params.toList args.toList ds p := hA0
  rw [Tryz.params5] at hA hval hz
  obtain ⟨v0, vs0, d0, ds0, p0, q0, hargs, rfl, rfl, h0, r0⟩ := trodAll_cons hA
  obtain ⟨v1, vs1, d1, ds1, p1, q1, rfl, rfl, rfl, h1, r1⟩ := trodAll_cons r0
  obtain ⟨rfl, rfl, rfl⟩ := trodAll_nil r1
  obtain rfl : args = #[v0, v1] := by cases args; simp_all
  obtain ⟨rfl, rfl⟩ := trodVars_none hV
  obtain ⟨x0, rfl, rfl, rfl, w0⟩ := open_string Tryz.underlying9 (hval 0 9 v0 rfl rfl) h0
  obtain ⟨x1, rfl, rfl, rfl, w1⟩ := open_string Tryz.underlying9 (hval 1 9 v1 rfl rfl) h1
  clear hA0 hval0
  simp only [List.append_nil] at hW'
  have hcall := Lg.calls_of (P := Tryz.prog) (f := 5) (args := [.str x0, .str x1]) (cargs := [.string x0, .string x1]) (W := W)
    (fun st => (.cons (.str _) (.cons (.str _) .nil)))
    (fun hg => by haveI := Lg.ET.of (applyTells_et hL) hg; exact Lg.applyTells_c x0 x1 [] )
  refine hcall.mono fun e W' ⟨he, hg⟩ => ?_
  subst he
  refine ⟨_, rfl, _, _, _, [], [], [], hW', trodAll_mk1 (shut_bool Tryz.underlying4 _), ?_, rfl, hg.frame _, fun h => by cases h⟩
  exact (trodAll_cons_mk (shut_string Tryz.underlying9 w0) (trodAll_cons_mk (shut_string Tryz.underlying9 w1) trodAll_mk0))
theorem applyTells_holds : Rows.ApplyTellsSaid :=
  OpenClaim.holds_of_wide 5 Tryz.f5 rfl rfl rfl rfl rfl rfl rfl ⟨rfl, rfl, rfl, rfl, rfl⟩ rfl rfl rfl rfl rfl (by kernel_rfl) Tryz.func5 (by kernel_rfl)
    (of_decide_eq_true (by kernel_rfl)) (by unfold Func.isWrapper; first | (rw [if_pos (by decide +kernel)]; kernel_rfl) | (rw [if_neg (by decide +kernel)]; exact ⟨rfl, rfl⟩))
    (fun os started H enc _ => applyTells_lifted os started H enc)
end Go.Proofs.YtdacoelmmaiffaaGreatDoor
