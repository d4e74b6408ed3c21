/- A part of the proof of A value passes the const and the one-element enum of itself; numbers pass minimum, maximum, const as they stand to each other; a doubled list is not unique.: Ld4 D10 VCs. -/
import Derived.Test.YtpcjccmmeaaeaaaGreatDoorD8
import Derived.Test.YtpcjccmmeaaeaaaGreatDoorD10
import Derived.Test.YtpcjccmmeaaeaaaGreatDoorD7
import Derived.Test.YtpcjccmmeaaeaaaGreatDoorD4
import Derived.Test.YtpcjccmmeaaeaaaGreatDoorD5
import Derived.SizedLaws
set_option linter.unusedVariables false
set_option linter.unusedSimpArgs false
set_option linter.unusedSectionVars false
namespace Lg
open Go
def nk (nm : ByteArray) (k : JV) : JNode := ⟨e0, false, false, [⟨nm, k, []⟩]⟩
theorem jk_y {nm : ByteArray} {k v : JV} (h : rpass nm k v = true) : jown (nk nm k) v = [] := by
  rw [jown_k (by simp [nk])]
  show ([⟨nm, k, []⟩].filter fun q : JKey => !rpass q.name q.v v).map JKey.name = _
  rw [List.filter_cons_of_neg (by show ¬ (!rpass nm k v) = true; rw [h]; decide)]; rfl
theorem jk_n {nm : ByteArray} {k v : JV} (h : rpass nm k v = false) : jown (nk nm k) v = [nm] := by
  rw [jown_k (by simp [nk])]
  show ([⟨nm, k, []⟩].filter fun q : JKey => !rpass q.name q.v v).map JKey.name = _
  rw [List.filter_cons_of_pos (by show (!rpass nm k v) = true; rw [h]; rfl)]; rfl
theorem nk_NM {nm : ByteArray} {k : JV} (h : rShape nm k = 0) (hk : jmay k) : NM (nk nm k) := fun q hq => by
  rw [List.mem_singleton.1 hq]; exact ⟨h, hk⟩
theorem nk_KZ {nm : ByteArray} {k : JV} (h : nm.size ≤ 1000000) (hk : jb k) : KZ (nk nm k) := ⟨by show 1 ≤ 1000000; decide, fun q hq => by rw [List.mem_singleton.1 hq]; exact ⟨h, hk, by show 0 ≤ 1000000; decide⟩⟩
theorem sh_const (k : JV) : rShape wCONST k = 0 := by
  have h : rk wCONST = 3 := by decide
  unfold rShape; rw [h, if_neg (by decide), if_pos (by rfl)]
theorem sh_enum {k : JV} (h : k.kind = 4) (hl : 0 < k.l.length) : rShape wENUM k = 0 := by
  have h1 : rk wENUM = 2 := by decide
  unfold rShape; rw [h1, if_neg (by decide), if_pos (by simp [kOK, h, hl])]
theorem sh_min {k : JV} (h : k.kind = 2) : rShape wMIN k = 0 := by
  have h1 : rk wMIN = 4 := by decide
  unfold rShape; rw [h1, if_neg (by decide), if_pos (by simp [kOK, h])]
theorem sh_max {k : JV} (h : k.kind = 2) : rShape wMAX k = 0 := by
  have h1 : rk wMAX = 4 := by decide
  unfold rShape; rw [h1, if_neg (by decide), if_pos (by simp [kOK, h])]
theorem sh_uniq {k : JV} (h : k.kind = 1) : rShape wUNIQ k = 0 := by
  have h1 : rk wUNIQ = 6 := by decide
  unfold rShape; rw [h1, if_neg (by decide), if_pos (by simp [kOK, h])]
def vL (l : List JV) : JV := .mk 4 false {} e0 l []
theorem vL_bare (l : List JV) : jbare (vL l) = true := by
  have h1 : (vL l).n.z = true := rfl
  have h2 : decide ((vL l).s = ⟨#[]⟩) = true := rfl
  have h3 : (vL l).b = false := rfl
  have h4 : (vL l).kind = 4 := rfl
  have h5 : (vL l).m.length = 0 := rfl
  unfold jbare; rw [h1, h2, h3, h4, h5]; simp
theorem bare2 {v : JV} (hv : jmay v) (h : v.kind = 2) : v.b = false ∧ v.s = ⟨#[]⟩ ∧ v.l = [] ∧ v.m = [] := by
  have bv := ((jmay_eq v).1 hv).1.2.2.1
  unfold jbare at bv
  rw [h] at bv
  simp at bv
  exact ⟨bv.1.1, bv.1.2, bv.2.1, bv.2.2⟩
theorem vL_may [GLay] {l : List JV} (h : ∀ x ∈ l, jmay x) : jmay (vL l) := (jmay_eq _).2 ⟨⟨by simp [vL, JV.kind], by simp [vL, JV.kind], vL_bare l, zmay, zutf⟩, fun j q hj => absurd hj (by simp [vL, JV.m]), fun i x hx => h x (List.mem_of_getElem? hx)⟩
theorem vL_jb [GLay] {l : List JV} (h : ∀ x ∈ l, jb x) (hl : l.length ≤ 1000000) : jb (vL l) := by
  refine (jb_eq _).2 ⟨by show e0.size ≤ 1000000; decide, by show e0.size ≤ 1000000; decide, hl, by show 0 ≤ 1000000; decide, ?_, trivial⟩
  show lb l
  clear hl
  induction l with
  | nil => trivial
  | cons a r ih => exact ⟨h a (.head _), ih fun x hx => h x (.tail _ hx)⟩
theorem vL_eq (l : List JV) : vcells (vL l) = [.int .i64 4, .bool false, .bool false, .str e0, .int .i64 0, .str e0, .sl false 8 (lcells l), .sl false 9 (mcells [])] := vcells_eq _
theorem num_ext {v w : JV} (hv : jmay v) (hw : jmay w) (h1 : v.kind = 2) (h2 : w.kind = 2) : v = w ↔ v.n = w.n := by
  constructor
  · intro h; rw [h]
  · intro h
    obtain ⟨a1, a2, a3, a4⟩ := bare2 hv h1
    obtain ⟨b1, b2, b3, b4⟩ := bare2 hw h2
    refine (jv_ext v w).2 ⟨by rw [h1, h2], by rw [a1, b1], ⟨by rw [h], by rw [h], by rw [h]⟩, by rw [a2, b2], by rw [a3, b3], by rw [a4, b4]⟩
theorem sides_lh {v w : JV} (hv : jmay v) (hw : jmay w) : rpass wMIN w v = true ∨ rpass wMAX w v = true := by
  rw [rp_min, rp_max]
  by_cases h : pCmp v.n w.n < 0
  · right; simp; right; omega
  · left; simp [h]
theorem sides_eq {v w : JV} (hv : jmay v) (hw : jmay w) (h1 : v.kind = 2) (h2 : w.kind = 2) : (rpass wMIN w v && rpass wMAX w v) = rpass wCONST w v := by
  have hz := pCmp_zero (numMay_J (kindr hv).2.2) (numMay_J (kindr hw).2.2)
  rw [rp_min, rp_max, rp_const, h1, Bool.eq_iff_iff, pb_iff, num_ext hw hv h2 h1]
  constructor
  · intro h
    simp at h
    exact (hz.1 (by omega)).symm
  · intro h
    have := hz.2 h.symm
    simp; omega
theorem const_sym (v w : JV) : rpass wCONST v w = rpass wCONST w v := by
  rw [rp_const, rp_const]; congr 1; exact propext ⟨fun h => h.symm, fun h => h.symm⟩
theorem const_self (v : JV) : rpass wCONST v v = true := by rw [rp_const, pb_t rfl]
theorem enum_self (v w : JV) : rpass wENUM (vL [w, v]) v = true := by
  rw [rp_enum]; exact List.any_eq_true.2 ⟨v, by show v ∈ [w, v]; simp, pb_t rfl⟩
theorem uniq_no {v x : JV} (hx : v.l[0]? = some x) : rpass wUNIQ vT (vL (v.l ++ [x])) = false := by
  rw [rp_uniq, pb_f]; rfl
  intro h
  have hl : 0 < v.l.length := (List.getElem?_eq_some_iff.1 hx).1
  refine h v.l.length x (by show _ < (v.l ++ [x]).length; simp) (by show (v.l ++ [x])[v.l.length]? = _; simp) x ?_ rfl
  show x ∈ (v.l ++ [x]).take v.l.length
  rw [List.take_append_of_le_length (Nat.le_refl _), List.take_length]
  exact List.mem_of_getElem? hx
def vF : JV := .mk 1 false {} e0 [] []
theorem uniq_off (l : JV) : rpass wUNIQ vF l = true := by rw [rp_uniq]; rfl
section
open Go.RowKit
variable [GLay]
theorem key1_le (nm : ByteArray) (k : JV) : AVle (.sl true 10 [[.str nm, .int .i64 k.kind, .bool k.b, .bool k.n.neg, .str k.n.digits, .int .i64 k.n.exp, .str k.s, .sl false 8 (lcells k.l), .sl false 9 (mcells k.m), .nils]]) (.sl false 10 (keyr [⟨nm, k, []⟩])) := by
  have e : keyr [⟨nm, k, []⟩] = [[.str nm, .int .i64 k.kind, .bool k.b, .bool k.n.neg, .str k.n.digits, .int .i64 k.n.exp, .str k.s, .sl false 8 (lcells k.l), .sl false 9 (mcells k.m), .sl false 2 []]] := by
    show [keyc ⟨nm, k, []⟩] = _; rw [keyc_eq]; rfl
  rw [e]
  refine (AVle.full 10 _).trans (AVle.sl ?_ rfl (fun r hr => by rw [List.mem_singleton.1 hr]; rfl))
  exact ⟨AVle.refl _, AVle.refl _, AVle.refl _, AVle.refl _, AVle.refl _, AVle.refl _, AVle.refl _, AVle.refl _, AVle.refl _, AVle.nils false 2, trivial⟩
theorem op_len0 {P : Program} {σ : List AO} {e : Env} {o : Oper} {T T' : TypeId} {x y : Operand} {nm : ByteArray} {k v : JV} (ho : o.op = .binOp .eql T x y T') (hx : opv e x = .int .i64 ((nrow (jown (nk nm k) v)).length : Int)) (hy : opv e y = .int .i64 0) : AOp P σ e o (.bool (rpass nm k v)) σ := by
  cases h : rpass nm k v with
  | true => rw [jk_y h] at hx; exact op_eqlT ho hx hy rfl
  | false => rw [jk_n h] at hx; exact op_eqlF ho hx hy (by show ¬ (1 : Int) = 0; decide)
end
end Lg
set_option maxRecDepth 20000
set_option maxHeartbeats 4000000
namespace Lg
open Go Go.Proofs Go.RowKit
variable [GLay] [S10] [ML]
theorem ckey_0 (nm : ByteArray) (k : JV) (σ : List AO) : ACalls Tryz.prog 23 [.str nm, .agg (vcells k)] σ (Ret (.agg (nodec (nk nm k))) σ) := by
 refine ACalls_bodyC Tryz.func23 rfl Tryz.ntmps23 (by rw [Tryz.results23]; exact (.ck Tryz.isAgg47 Tryz.sizeOf47 .nil)) (Nat.le_of_ble_eq_true rfl) (fun hcl hal => ?_)
 rw [vcells_eq k, show nodec (nk nm k) = [.str e0, .bool false, .bool false, .sl false 10 (keyr [⟨nm, k, []⟩])] from rfl]
 refine zw2 ?_
 refine zu3 ?_
 refine zt rfl (op_buildSlice [[_, _, _, _, _, _, _, _, _, _]] rfl Tryz.underlying45 Tryz.sizeOf55 Tryz.zeroValue55 rfl (by decide) (by decide) rfl rfl rfl rfl rfl) ?_
 refine zv2 ?_
 refine AWp_boxLeO 1 (bs' := [.str e0, .bool false, .bool false, .sl false 10 (keyr [⟨nm, k, []⟩])]) rfl ⟨AVle.refl _, AVle.refl _, AVle.refl _, key1_le nm k, trivial⟩ ?_
 refine zrt ?_
 exact RQ_ret (rkvs_cons (rkv_ck rfl rfl rfl) rfl) hcl (by simp [AV.lt, AV.ltL, rks]) ⟨rfl, rfl⟩

theorem ckey_c (nm : ByteArray) (k : JV) (c1 : List AV) (σ : List AO) (h : AVleL c1 (vcells k)) : ACalls Tryz.prog 23 [.str nm, .agg c1] σ (Ret (.agg (nodec (nk nm k))) σ) :=
  ACalls.conv (args' := [.str nm, .agg (vcells k)]) ⟨AVle.refl _, AVle.agg h, trivial⟩ (ckey_0 nm k σ)
theorem ownZ_c (v : JV) (c2 : List AV) (σ : List AO) (h2c : vcells v = c2) (hvj : jb v) (hvm : jmay v) : ACalls Tryz.prog 21 [.agg [.str e0, .bool false, .bool false, .nils], .agg c2] σ (Ret (.sl false 1 []) σ) := by
  have h := own_c ⟨e0, false, false, []⟩ v _ c2 σ rfl h2c (fun k hk => by cases hk) ⟨by show 0 ≤ 1000000; decide, fun k hk => by cases hk⟩ hvj hvm
  rw [show jown ⟨e0, false, false, []⟩ v = [] by unfold jown; rw [if_neg (by simp)]; rfl] at h
  exact ACalls.conv (args' := [.agg (nodec ⟨e0, false, false, []⟩), .agg c2]) ⟨AVle.agg ⟨AVle.refl _, AVle.refl _, AVle.refl _, AVle.nils false 10, trivial⟩, AVle.refl _, trivial⟩ h
theorem checkSides_c (s t : ByteArray) (σ : List AO) : ACalls Tryz.prog 6 [.str s, .str t] σ (Ret (.bool true) σ) := by
 refine ACalls_body Tryz.func6 rfl Tryz.ntmps6 (res1 Tryz.results6) (Nat.le_of_ble_eq_true rfl) (fun hcl hal => ?_)
 have hTj : jb vT := jb_nil _ _ _ _ (by decide) (by decide)
 have hFj : jb vF := jb_nil _ _ _ _ (by decide) (by decide)
 refine zw1 ?_
 refine zsr ?_
 refine zt rfl (zc rfl (up14_c _)) ?_
 refine zv1 ?_
 refine zu1 ?_
 refine zt rfl (zc rfl (value_c s _)) ?_
 have hva := rValue_ok s
 generalize rValue s = z at hva ⊢
 obtain ⟨v, ok⟩ := z
 dsimp only at hva ⊢
 rw [vcells_eq v]
 refine zv6 ?_
 refine zu1 ?_
 refine zt rfl (zc rfl (value_c t _)) ?_
 have hvb := rValue_ok t
 generalize rValue t = z at hvb ⊢
 obtain ⟨w, is⟩ := z
 dsimp only at hvb ⊢
 rw [vcells_eq w]
 refine zv6 ?_
 refine AWp_seq ?_
 refine zu3 ?_
 refine zsp 28 rfl (fun h1 => ?_) fun h1 => ?_
 ·rw [h1]; replace h1 := zcl h1
  refine zv3 ?_
  refine AWp_condT rfl ?_
  refine zw2 ?_
  refine zrt ?_
  exact ResQ_1 rfl hcl trivial (Ret_of rfl)
 ·rw [h1]; replace h1 := zcl h1
  refine zv3 ?_
  refine AWp_cond rfl (fun h2 => ?_) (fun h2 => ?_)
  ·(try rw [h2]); replace h2 := zcl h2
   refine zw2 ?_
   refine zrt ?_
   exact ResQ_1 rfl hcl trivial (Ret_of rfl)
  ·(try rw [h2]); replace h2 := zcl h2
   obtain ⟨_, hvm, hvj, hvs⟩ := hva.resolve_left (fun z => h1 z.1)
   obtain ⟨_, hwm, hwj, hws⟩ := hvb.resolve_left (fun z => h2 z.1)
   obtain ⟨vb1, vb2, vb3, vb4, vb5, vb6⟩ := (jb_eq v).1 hvj
   have hvl := llen_le v.l
   have hvse := jsize_eq v
   have hvmn := msize_nn v.m
   have hem : jmay (vL [w, v]) := vL_may (fun y hy => by simp at hy; rcases hy with rfl | rfl <;> assumption)
   have hej : jb (vL [w, v]) := vL_jb (fun y hy => by simp at hy; rcases hy with rfl | rfl <;> assumption) (by show 2 ≤ 1000000; decide)
   refine AWp_skip ?_
   refine zw1 ?_
   refine AWp_seq ?_
   refine AWp_seq ?_
   refine AWp_drawL #[0, 0, 3, 0, 15, 31, 63, 127, 255, 255, 255, 1791, 3839, 8191, 255, 32767, 65535, 131071, 262143, 524287, 1048575, 1048575, 4194303, 8388607, 16777215, 33554431] Tryz.mixed (by decide +kernel) (by decide +kernel) ?_
   refine zd1 ?_
   refine zp1 ?_
   refine yP rfl rfl (zc rfl (ckey_c wCONST v _ _ ((vcells_eq v ▸ AVleL.refl _)))) (trivial) ?_
   refine zp1 ?_
   refine yP rfl rfl (zc rfl (own_c (nk wCONST v) v _ _ _ rfl (vcells_eq v) (nk_NM (sh_const v) hvm) (nk_KZ (by decide) hvj) hvj hvm)) (trivial) ?_
   rw [jk_y (const_self v)]
   refine zd1 ?_
   refine yA rfl rfl (fun _ => op_neqF rfl rfl rfl rfl) ?_
   refine zd2 ?_
   refine zp2 ?_
   refine yAG rfl rfl rfl (fun _ => op_buildSlice [[_, _, _, _, _, _, _, _], [_, _, _, _, _, _, _, _]] rfl Tryz.underlying25 Tryz.sizeOf28 Tryz.zeroValue28 rfl (by decide) (by decide) rfl rfl rfl rfl rfl) ?_
   refine zd1 ?_
   refine yPG rfl rfl rfl (zc rfl (ckey_c wENUM (vL [w, v]) _ _ (vle8 (sl2 (v := w) (u := v) (vcells_eq w ▸ AVleL.refl _) (vcells_eq v ▸ AVleL.refl _)) nilM))) (trivial) ?_
   refine zp1 ?_
   refine yPG rfl rfl rfl (zc rfl (own_c (nk wENUM (vL [w, v])) v _ _ _ rfl (vcells_eq v) (nk_NM (sh_enum rfl (by show 0 < 2; decide)) hem) (nk_KZ (by decide) hej) hvj hvm)) (trivial) ?_
   rw [jk_y (enum_self v w)]
   refine zd1 ?_
   refine yAG rfl rfl rfl (fun _ => op_neqF rfl rfl rfl rfl) ?_
   refine zd3 ?_
   refine zp1 ?_
   refine yPG rfl rfl rfl (zc rfl (ownZ_c v _ _ (vcells_eq v) hvj hvm)) (trivial) ?_
   refine zd1 ?_
   refine yAG rfl rfl rfl (fun _ => op_neqF rfl rfl rfl rfl) ?_
   refine zd1 ?_
   refine RP.nil rfl ?_
   refine AWp_condF rfl ?_
   refine AWp_skip ?_
   refine AWp_seq ?_
   refine AWp_seq ?_
   refine AWp_drawL #[0, 0, 3, 0, 15, 31, 63, 0, 0, 415, 0, 1951, 3999, 8095, 16383] Tryz.mixed (by decide +kernel) (by decide +kernel) ?_
   refine zd1 ?_
   refine zp1 ?_
   refine yP rfl rfl (zc rfl (ckey_c wCONST v _ _ ((vcells_eq v ▸ AVleL.refl _)))) (trivial) ?_
   refine zp1 ?_
   refine yP rfl rfl (zc rfl (own_c (nk wCONST v) w _ _ _ rfl (vcells_eq w) (nk_NM (sh_const v) hvm) (nk_KZ (by decide) hvj) hwj hwm)) (trivial) ?_
   refine zd1 ?_
   refine yA rfl rfl (fun _ => op_len0 rfl rfl rfl) ?_
   refine zd1 ?_
   refine zp1 ?_
   refine yP rfl rfl (zc rfl (ckey_c wCONST w _ _ ((vcells_eq w ▸ AVleL.refl _)))) (trivial) ?_
   refine zp1 ?_
   refine yP rfl rfl (zc rfl (own_c (nk wCONST w) v _ _ _ rfl (vcells_eq v) (nk_NM (sh_const w) hwm) (nk_KZ (by decide) hwj) hvj hvm)) (trivial) ?_
   refine zd1 ?_
   refine yA rfl rfl (fun _ => op_len0 rfl rfl rfl) ?_
   rw [const_sym v w]
   refine zd1 ?_
   refine RP.nil rfl ?_
   refine AWp_cond rfl (fun h3 => ?_) (fun h3 => ?_)
   ·(try rw [h3]); replace h3 := zcl h3
    first | (simp at h3; done) | exact absurd rfl h3
   ·(try rw [h3]); replace h3 := zcl h3
    refine AWp_skip ?_
    refine AWp_join (ι := Unit) (fun b => True) (fun b => ⟨[], [(4, .bool false), (5, .bool true), (6, .ptr (σ.length + 0) 0), (8, .ptr (σ.length + 1) 0), (10, .func (.func 23) [] [])]⟩) (fun b => σ ++ [.box [.int .i64 v.kind, .bool v.b, .bool v.n.neg, .str v.n.digits, .int .i64 v.n.exp, .str v.s, .sl false 8 (lcells v.l), .sl false 9 (mcells v.m)], .box [.int .i64 w.kind, .bool w.b, .bool w.n.neg, .str w.n.digits, .int .i64 w.n.exp, .str w.s, .sl false 8 (lcells w.l), .sl false 9 (mcells w.m)]]) ?_ (fun b hj => ?_)
    ·skip
     refine zu4 ?_
     refine zsp 77 rfl (fun h4 => ?_) fun h4 => ?_
     ·rw [h4]; replace h4 := zcl h4
      refine zv4 ?_
      refine AWp_cond rfl (fun h5 => ?_) (fun h5 => ?_)
      ·(try rw [h5]); replace h5 := zcl h5
       have hwk : w.kind = 2 := by simpa using h5
       have hlh := sides_lh hvm hwm
       have hse := sides_eq hvm hwm (by simpa using h4) hwk
       refine AWp_seq ?_
       refine AWp_drawL #[0, 0, 3, 0, 15, 31, 63, 127] Tryz.mixed (by decide +kernel) (by decide +kernel) ?_
       refine zd1 ?_
       refine zp1 ?_
       refine yP rfl rfl (zc rfl (ckey_c wMIN w _ _ ((vcells_eq w ▸ AVleL.refl _)))) (trivial) ?_
       refine zp1 ?_
       refine yP rfl rfl (zc rfl (own_c (nk wMIN w) v _ _ _ rfl (vcells_eq v) (nk_NM (sh_min hwk) hwm) (nk_KZ (by decide) hwj) hvj hvm)) (trivial) ?_
       refine zd1 ?_
       refine yA rfl rfl (fun _ => op_len0 rfl rfl rfl) ?_
       refine zd1 ?_
       refine RP.nil rfl ?_
       refine AWp_seq ?_
       refine AWp_drawL #[0, 0, 3, 0, 15, 31, 63, 127] Tryz.mixed (by decide +kernel) (by decide +kernel) ?_
       refine zd1 ?_
       refine zp1 ?_
       refine yP rfl rfl (zc rfl (ckey_c wMAX w _ _ ((vcells_eq w ▸ AVleL.refl _)))) (trivial) ?_
       refine zp1 ?_
       refine yP rfl rfl (zc rfl (own_c (nk wMAX w) v _ _ _ rfl (vcells_eq v) (nk_NM (sh_max hwk) hwm) (nk_KZ (by decide) hwj) hvj hvm)) (trivial) ?_
       refine zd1 ?_
       refine yA rfl rfl (fun _ => op_len0 rfl rfl rfl) ?_
       refine zd1 ?_
       refine RP.nil rfl ?_
       refine AWp_seq ?_
       refine AWp_drawL #[0, 0, 3, 0, 15, 31, 63, 127] Tryz.mixed (by decide +kernel) (by decide +kernel) ?_
       refine zd1 ?_
       refine zp1 ?_
       refine yP rfl rfl (zc rfl (ckey_c wCONST w _ _ ((vcells_eq w ▸ AVleL.refl _)))) (trivial) ?_
       refine zp1 ?_
       refine yP rfl rfl (zc rfl (own_c (nk wCONST w) v _ _ _ rfl (vcells_eq v) (nk_NM (sh_const w) hwm) (nk_KZ (by decide) hwj) hvj hvm)) (trivial) ?_
       refine zd1 ?_
       refine yA rfl rfl (fun _ => op_len0 rfl rfl rfl) ?_
       refine zd1 ?_
       refine RP.nil rfl ?_
       refine zu3 ?_
       refine zsp 105 rfl (fun h6 => ?_) fun h6 => ?_
       ·rw [h6]; replace h6 := zcl h6
        refine zg4 ?_
        refine zsp 109 rfl (fun h7 => ?_) fun h7 => ?_
        ·rw [h7]; replace h7 := zcl h7
         exfalso; simp_all
        ·rw [h7]; replace h7 := zcl h7
         refine zg2 ?_
         refine zsp 111 rfl (fun h8 => ?_) fun h8 => ?_
         ·rw [h8]; replace h8 := zcl h8
          exfalso; simp_all
         ·rw [h8]; replace h8 := zcl h8
          refine zv5 ?_
          refine AWp_cond rfl (fun h9 => ?_) (fun h9 => ?_)
          ·(try rw [h9]); replace h9 := zcl h9
           exfalso; simp_all
          ·(try rw [h9]); replace h9 := zcl h9
           refine AWp_skip ?_
           exact ⟨(), trivial, ⟨rfl, rfl, rfl, rfl, rfl, rfl, trivial⟩, rfl⟩
       ·rw [h6]; replace h6 := zcl h6
        refine zg6 ?_
        refine zsp 111 rfl (fun h10 => ?_) fun h10 => ?_
        ·rw [h10]; replace h10 := zcl h10
         refine zv5 ?_
         refine AWp_cond rfl (fun h11 => ?_) (fun h11 => ?_)
         ·(try rw [h11]); replace h11 := zcl h11
          exfalso; simp_all
         ·(try rw [h11]); replace h11 := zcl h11
          refine AWp_skip ?_
          exact ⟨(), trivial, ⟨rfl, rfl, rfl, rfl, rfl, rfl, trivial⟩, rfl⟩
        ·rw [h10]; replace h10 := zcl h10
         exfalso; simp_all
      ·(try rw [h5]); replace h5 := zcl h5
       refine AWp_skip ?_
       exact ⟨(), trivial, ⟨rfl, rfl, rfl, rfl, rfl, rfl, trivial⟩, rfl⟩
     ·rw [h4]; replace h4 := zcl h4
      refine zv4 ?_
      refine AWp_condF rfl ?_
      refine AWp_skip ?_
      exact ⟨(), trivial, ⟨rfl, rfl, rfl, rfl, rfl, rfl, trivial⟩, rfl⟩
    ·skip
     refine AWp_seq ?_
     refine zu4 ?_
     refine zsp 120 rfl (fun h12 => ?_) fun h12 => ?_
     ·rw [h12]; replace h12 := zcl h12
      refine zv5 ?_
      refine AWp_cond rfl (fun h13 => ?_) (fun h13 => ?_)
      ·(try rw [h13]); replace h13 := zcl h13
       rw [lcells_length] at h13
       obtain ⟨x, hx0⟩ : ∃ x, v.l[0]? = some x := ⟨_, List.getElem?_eq_getElem (show 0 < v.l.length by omega)⟩
       have hxm := List.mem_of_getElem? hx0
       have hvel : ∀ y ∈ v.l, jb y := fun y hy => by obtain ⟨i, hi⟩ := List.mem_iff_getElem?.1 hy; exact lb_get vb5 hi
       have hvml : ∀ y ∈ v.l, jmay y := fun y hy => by obtain ⟨i, hi⟩ := List.mem_iff_getElem?.1 hy; exact mayL_get hvm hi
       have htm : jmay (vL (v.l ++ [x])) := vL_may (fun y hy => (List.mem_append.1 hy).elim (hvml y) (fun h => by rw [List.mem_singleton.1 h]; exact hvml x hxm))
       have htj : jb (vL (v.l ++ [x])) := vL_jb (fun y hy => (List.mem_append.1 hy).elim (hvel y) (fun h => by rw [List.mem_singleton.1 h]; exact hvel x hxm)) (by rw [List.length_append, List.length_singleton]; omega)
       refine AWp_seq ?_
       refine AWp_ghostHO 8 ?_
       refine AWp_drawGO 3 rfl #[0, 0, 2, 7, 0, 16, 48, 112, 240, 511, 1023, 0, 4095] (.box [.int .i64 0, .bool false, .bool false, .str ⟨#[]⟩, .int .i64 0, .str ⟨#[]⟩, .nils, .nils]) Tryz.mixed (by decide +kernel) (by decide +kernel) ?_
       refine gP rfl rfl (fun b' => op_buildSlice0GT 2 rfl Tryz.underlying25 Tryz.sizeOf28 rfl) trivial ?_
       refine gP rfl rfl (fun b' => zoa) trivial ?_
       refine gP rfl rfl (fun b' => zoa) trivial ?_
       refine gE (σ' := fun b' => σ ++ ([.box [.int .i64 v.kind, .bool v.b, .bool v.n.neg, .str v.n.digits, .int .i64 v.n.exp, .str v.s, .sl false 8 (lcells v.l), .sl false 9 (mcells v.m)], .box [.int .i64 w.kind, .bool w.b, .bool w.n.neg, .str w.n.digits, .int .i64 w.n.exp, .str w.s, .sl false 8 (lcells w.l), .sl false 9 (mcells w.m)], .arr 8 1 (lcells v.l).flatten] ++ bif b' then [.box [.int .i64 0, .bool false, .bool false, .str ⟨#[]⟩, .int .i64 0, .str ⟨#[]⟩, .nils, .nils]] else [])) rfl rfl (fun b' => by show AOp _ ( σ ++ ([.box [.int .i64 v.kind, .bool v.b, .bool v.n.neg, .str v.n.digits, .int .i64 v.n.exp, .str v.s, .sl false 8 (lcells v.l), .sl false 9 (mcells v.m)], .box [.int .i64 w.kind, .bool w.b, .bool w.n.neg, .str w.n.digits, .int .i64 w.n.exp, .str w.s, .sl false 8 (lcells w.l), .sl false 9 (mcells w.m)], .arr 8 0 []] ++ bif b' then [.box [.int .i64 0, .bool false, .bool false, .str ⟨#[]⟩, .int .i64 0, .str ⟨#[]⟩, .nils, .nils]] else [])) _ _ _ _; exact op_appendArrT rfl 2 (gg := 0) (cs0 := []) (sz := 8) (m := v.l.length) (len := 0) (cs := (lcells v.l).flatten) rfl (.inr ⟨_, rfl⟩) Tryz.underlying25 Tryz.underlying25 Tryz.type28 rfl rfl rfl (by decide) rfl rfl rfl (by show some (_, (lcells v.l).length) = _; rw [lcells_length]) rfl (lflat_ones _) (by show (0 + v.l.length) * 112 ≤ _; omega) (by omega) (lflat_len _)) (twin_lit rfl) ⟨.inl rfl, .inl rfl, .inl rfl, trivial⟩ trivial ?_
       refine gP rfl rfl (fun b' => zoa) ⟨.inr fun b' => zoa, trivial⟩ ?_
       refine gP rfl rfl (fun b' => zoa) ⟨.inr fun b' => zoa, trivial⟩ ?_
       refine gP rfl rfl (fun b' => zoa) ⟨.inr fun b' => zoa, trivial⟩ ?_
       rw [vcells_eq x]
       refine gP rfl rfl (fun b' => zoa) ⟨.inr fun b' => zoa, trivial⟩ ?_
       refine gP rfl rfl (fun b' => op_buildSlice [[_, _, _, _, _, _, _, _]] rfl Tryz.underlying25 Tryz.sizeOf28 Tryz.zeroValue28 rfl (by decide) (by decide) rfl rfl rfl rfl rfl) ⟨.inr fun b' => op_buildSlice [[_, _, _, _, _, _, _, _]] rfl Tryz.underlying25 Tryz.sizeOf28 Tryz.zeroValue28 rfl (by decide) (by decide) rfl rfl rfl rfl rfl, trivial⟩ ?_
       refine gE (σ' := fun b' => σ ++ ([.box [.int .i64 v.kind, .bool v.b, .bool v.n.neg, .str v.n.digits, .int .i64 v.n.exp, .str v.s, .sl false 8 (lcells v.l), .sl false 9 (mcells v.m)], .box [.int .i64 w.kind, .bool w.b, .bool w.n.neg, .str w.n.digits, .int .i64 w.n.exp, .str w.s, .sl false 8 (lcells w.l), .sl false 9 (mcells w.m)], .arr 8 2 ((lcells v.l).flatten ++ [.int .i64 x.kind, .bool x.b, .bool x.n.neg, .str x.n.digits, .int .i64 x.n.exp, .str x.s, .sl false 8 (lcells x.l), .sl false 9 (mcells x.m)])] ++ bif b' then [.box [.int .i64 0, .bool false, .bool false, .str ⟨#[]⟩, .int .i64 0, .str ⟨#[]⟩, .nils, .nils]] else [])) rfl rfl (fun b' => by show AOp _ ( σ ++ ([.box [.int .i64 v.kind, .bool v.b, .bool v.n.neg, .str v.n.digits, .int .i64 v.n.exp, .str v.s, .sl false 8 (lcells v.l), .sl false 9 (mcells v.m)], .box [.int .i64 w.kind, .bool w.b, .bool w.n.neg, .str w.n.digits, .int .i64 w.n.exp, .str w.s, .sl false 8 (lcells w.l), .sl false 9 (mcells w.m)], .arr 8 1 (lcells v.l).flatten] ++ bif b' then [.box [.int .i64 0, .bool false, .bool false, .str ⟨#[]⟩, .int .i64 0, .str ⟨#[]⟩, .nils, .nils]] else [])) _ _ _ _; exact op_appendArrT rfl 2 (sz := 8) (m := 1) (len := 0 + v.l.length) (cs := [.int .i64 x.kind, .bool x.b, .bool x.n.neg, .str x.n.digits, .int .i64 x.n.exp, .str x.s, .sl false 8 (lcells x.l), .sl false 9 (mcells x.m)]) rfl (.inr ⟨_, rfl⟩) Tryz.underlying25 Tryz.underlying25 Tryz.type28 rfl rfl rfl (by decide) rfl rfl (by rw [Nat.zero_add]; exact (lflat_len _).symm) rfl rfl rfl (by show (0 + v.l.length + 1) * 112 ≤ _; omega) (by omega) rfl) (twin_lit rfl) ⟨.inl rfl, .inl rfl, .inl rfl, .inl rfl, .inl rfl, .inl rfl, .inl rfl, .inl rfl, trivial⟩ ⟨rfl, trivial⟩ ?_
       refine gP rfl rfl (fun b' => zoa) ⟨.inl rfl, .inl rfl, trivial⟩ ?_
       refine gF (τ := σ ++ [.box [.int .i64 v.kind, .bool v.b, .bool v.n.neg, .str v.n.digits, .int .i64 v.n.exp, .str v.s, .sl false 8 (lcells v.l), .sl false 9 (mcells v.m)], .box [.int .i64 w.kind, .bool w.b, .bool w.n.neg, .str w.n.digits, .int .i64 w.n.exp, .str w.s, .sl false 8 (lcells w.l), .sl false 9 (mcells w.m)], .arr 8 2 ((lcells v.l).flatten ++ [.int .i64 x.kind, .bool x.b, .bool x.n.neg, .str x.n.digits, .int .i64 x.n.exp, .str x.s, .sl false 8 (lcells x.l), .sl false 9 (mcells x.m)]), .box [.int .i64 0, .bool false, .bool false, .str ⟨#[]⟩, .int .i64 0, .str ⟨#[]⟩, .nils, .nils]]) rfl rfl rfl Tryz.zeroValue28 rfl rfl rfl ?_
       refine tN rfl rfl rfl (zoa) rfl ?_
       refine RT.nil rfl ?_
       refine AWp_seq ?_
       refine AWp_boxLeO 3 (bs' := [.int .i64 4, .bool false, .bool false, .str ⟨#[]⟩, .int .i64 0, .str ⟨#[]⟩, .arr (σ.length + 2) 2 8 0 (0 + v.l.length + 1), .sl false 9 (mcells [])]) rfl ⟨AVle.refl _, AVle.refl _, AVle.refl _, AVle.refl _, AVle.refl _, AVle.refl _, AVle.refl _, nilM, trivial⟩ ?_
       refine AWp_freezeInO 3 6 2 2 8 (0 + v.l.length + 1) rfl rfl rfl (lcells (v.l ++ [x])) (by rw [lcells_eq, List.map_append, List.flatten_append, ← lcells_eq]; simp [vcells_eq]) (lrow_len _) (by rw [lcells_length, List.length_append, Nat.zero_add]; rfl) (by decide) ?_
       refine AWp_drawL #[0, 0, 3, 0, 15, 31, 63, 127, 255, 255, 1023, 255, 4095, 8191, 16383, 32767] Tryz.mixed (by decide +kernel) (by decide +kernel) ?_
       refine zd2 ?_
       refine yP rfl rfl (zc rfl (ckey_c wUNIQ vT _ _ (vle8 nilL nilM))) (trivial) ?_
       refine zp1 ?_
       refine yP rfl rfl (zc rfl (own_c (nk wUNIQ vT) (vL (v.l ++ [x])) _ _ _ rfl (vL_eq _) (nk_NM (sh_uniq rfl) (may_b true)) (nk_KZ (by decide) hTj) htj htm)) (trivial) ?_
       rw [jk_n (uniq_no hx0)]
       refine zd1 ?_
       refine yA rfl rfl (fun _ => op_neqF rfl rfl rfl rfl) ?_
       refine zd3 ?_
       refine yPG rfl rfl rfl (zc rfl (ckey_c wUNIQ vF _ _ (vle8 nilL nilM))) (trivial) ?_
       refine zp1 ?_
       refine yPG rfl rfl rfl (zc rfl (own_c (nk wUNIQ vF) (vL (v.l ++ [x])) _ _ _ rfl (vL_eq _) (nk_NM (sh_uniq rfl) (may_b false)) (nk_KZ (by decide) hFj) htj htm)) (trivial) ?_
       rw [jk_y (uniq_off _)]
       refine zd1 ?_
       refine yAG rfl rfl rfl (fun _ => op_neqF rfl rfl rfl rfl) ?_
       refine zd1 ?_
       refine RP.nil rfl ?_
       refine AWp_condF rfl ?_
       refine AWp_skip ?_
       refine zw2 ?_
       refine zrt ?_
       exact ResQ_1 rfl hcl trivial (Ret_of rfl)
      ·(try rw [h13]); replace h13 := zcl h13
       refine AWp_skip ?_
       refine zw2 ?_
       refine zrt ?_
       exact ResQ_1 rfl hcl trivial (Ret_of rfl)
     ·rw [h12]; replace h12 := zcl h12
      refine zv5 ?_
      refine AWp_condF rfl ?_
      refine AWp_skip ?_
      refine zw2 ?_
      refine zrt ?_
      exact ResQ_1 rfl hcl trivial (Ret_of rfl)
end Lg
set_option maxRecDepth 100000
set_option maxHeartbeats 4000000
namespace Go.Proofs.YtpcjccmmeaaeaaaGreatDoor
open Go Go.ChangeShapes Go.WideShapes Go.ChangeAt Go.RowKit Go.Lib
open Go.ChangeMaps (open_string shut_string)
noncomputable def checkSides_lw (os : Os) : World := World.laidAll Tryz.prog os Rows.checkSidesRow.laid
theorem checkSides_pl : (Rows.checkSidesRow.laid.all fun x => x.2.handleName?.isNone) = true := by kernel_rfl
theorem checkSides_mh (os : Os) (args : Array Value) : laidMetH Tryz.prog Rows.checkSidesRow.laid ((checkSides_lw os).forCall (fun _ _ => 0) ⟨#[], args, []⟩).memory := by
  rw [MakeChecks.laidMetH_plain _ _ _ checkSides_pl]; exact laidMet_laidAll _ (by kernel_rfl) (by kernel_rfl)
theorem checkSides_lifted (os : Os) (started : os.Started) (H : Type) (enc : TypeId × Value → H) :
    ReturnsInHanded {} Tryz.checked os 6 .any (fun w args => (Rows.checkSidesSpec.pre enc Tryz.prog Tryz.f6 [] false w args ∧ laidMetH Tryz.prog Rows.checkSidesRow.laid w) ∧ sizedMet enc Tryz.prog Tryz.f6 (OpenSpec.ofChange Rows.checkSidesSpec) false w args)
      (Rows.checkSidesSpec.post enc Tryz.prog Tryz.f6 false true false false) := by
  refine Lg.returns_and_shaped (C := Tryz.checked) (X := fun w _ => laidMetH Tryz.prog Rows.checkSidesRow.laid w) (fun _ _ _ hh h => h.of_heap hh) own started (by kernel_rfl) Tryz.func6
    (ChangeSpec.witness_shaped (enc := enc) (C := Tryz.checked) (os := os) (X := fun w _ => laidMetH Tryz.prog Rows.checkSidesRow.laid w) false (checkSides_lw os) #[.string ⟨#[]⟩, .string ⟨#[]⟩] 8 (World.laidAll_os _ _ _)
      (World.shaped_of_ZipB (by kernel_rfl) (by kernel_rfl)) (by kernel_rfl) (by kernel_rfl) (by kernel_rfl) (checkSides_mh os _)) ?_
  intro W base args ds gs before hval0 hW hL hS
  have hval : ∀ (j : Nat) t v, Tryz.f6.params[j]? = some t → args[j]? = some v → Value.okWide Tryz.prog W .any base t v := hval0
  have hW' := hW
  obtain ⟨p, q, hA0, hV, rfl, hfz, hnd⟩ := hW
  have hA : DataW.TrodAll enc Tryz.prog W 0 (fun _ => true) true Tryz.f6.params.toList args.toList ds p := hA0
  rw [Tryz.params6] at hA hval
  obtain ⟨v0, vs0, d0, ds0, p0, q0, hargs, rfl, rfl, h0, r0⟩ := trodAll_cons hA
  obtain ⟨v1, vs1, d1, ds1, p1, q1, rfl, rfl, rfl, h1, r1⟩ := trodAll_cons r0
  obtain ⟨rfl, rfl, rfl⟩ := trodAll_nil r1
  obtain rfl : args = #[v0, v1] := by cases args; simp_all
  obtain ⟨rfl, rfl⟩ := trodVars_none hV
  obtain ⟨x0, rfl, rfl, rfl, w0⟩ := open_string Tryz.underlying9 (hval 0 9 v0 rfl rfl) h0
  obtain ⟨x1, rfl, rfl, rfl, w1⟩ := open_string Tryz.underlying9 (hval 1 9 v1 rfl rfl) h1
  clear hA0 hval0
  simp only [List.append_nil] at hW'
  have hT_s10 := s10_of checkSides_pl hL (by kernel_rfl)
  have hcall := Lg.calls_of (P := Tryz.prog) (f := 6) (args := [.str x0, .str x1]) (cargs := [.string x0, .string x1]) (W := W)
    (fun st => (.cons (.str _) (.cons (.str _) .nil)))
    (fun hg => by haveI := Lg.ML.of hS hg; haveI := Lg.S10.of hT_s10 hg; exact Lg.checkSides_c x0 x1 [] )
  refine hcall.mono fun e W' ⟨he, hg⟩ => ?_
  subst he
  refine ⟨_, rfl, _, _, _, [], [], [], hW', trodAll_mk1 (shut_bool Tryz.underlying4 _), ?_, rfl, hg.frame _, fun h => by cases h⟩
  exact (trodAll_cons_mk (shut_string Tryz.underlying9 w0) (trodAll_cons_mk (shut_string Tryz.underlying9 w1) trodAll_mk0))
theorem checkSides_holds : Rows.CheckSidesSaid :=
  OpenClaim.holds_of_wide 6 Tryz.f6 rfl rfl rfl rfl rfl rfl rfl ⟨rfl, rfl, rfl, rfl, rfl⟩ rfl rfl rfl rfl rfl (by kernel_rfl) Tryz.func6 (by kernel_rfl)
    (of_decide_eq_true (by kernel_rfl)) (by unfold Func.isWrapper; first | (rw [if_pos (by decide +kernel)]; kernel_rfl) | (rw [if_neg (by decide +kernel)]; exact ⟨rfl, rfl⟩))
    (fun os started H enc _ => checkSides_lifted os started H enc)
end Go.Proofs.YtpcjccmmeaaeaaaGreatDoor
