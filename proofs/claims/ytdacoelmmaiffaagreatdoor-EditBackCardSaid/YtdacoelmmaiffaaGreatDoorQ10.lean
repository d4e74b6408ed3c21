/- A part of the proof of For every input the law doubletlaw07.EditBack returns true: what was added, or replaced, is there; what was added and was not there, removed again, leaves all as it was; what was removed, added again, too; the value stays as it is; the input reads as it did.: Le11 Le12 Y15 Le13 Y16 S1 B1 B2 B3 Lq2 B4 Sq S4 Lg50 Lg51 Lg52 Lg56 Le14 Y17 VYb. -/
import Derived.Test.YtdacoelmmaiffaaGreatDoorQ9
import Derived.Test.YtdacoelmmaiffaaGreatDoorQ5
import Derived.Test.YtdacoelmmaiffaaGreatDoorQ4
import Derived.Test.YtdacoelmmaiffaaGreatDoorQ6
import Derived.Test.YtdacoelmmaiffaaGreatDoorQ3
import Derived.Test.YtdacoelmmaiffaaGreatDoorQ2
import Derived.SizedLaws
set_option linter.unusedVariables false
set_option linter.unusedSimpArgs false
set_option linter.unusedSectionVars false
namespace Lg
open Go
variable [GLay]
theorem add_base (x : JV) (nm : BL) (v : JV) (h : jst v) : jed 1 x [nm] v = ((padd nm x v).1, eC (padd nm x v).2) := by
  have hs := st_ms h
  have hl : ([] : List BL).isEmpty = true := rfl
  by_cases h4 : v.kind = 4
  · have hm0 : v.m = [] := st_nom h (by omega)
    have hjo : jeO 1 nm true v = jixO nm v.l.length true := rfl
    have hjk : jeK 1 nm true v = jixN nm v.l.length true := rfl
    by_cases ho : jixO nm v.l.length true = true
    · obtain ⟨k, hk, hkl⟩ := jix_nat2 ho
      rw [jedA_ok hl h4 (by rw [hjk, hk]) (by rw [hjo]; exact ho) (fun h => by cases h), padd_4 h4 ho hk, eA_ins hkl, hm0]; rfl
    · rw [jedA_no hl h4 (by rw [hjo]; simpa using ho), padd_no h4 (by simpa using ho)]; rfl
  · by_cases h5 : v.kind = 5
    · have hl0 : v.l = [] := st_nol h h4
      rw [jedM_ok hl h4 h5 (.inr ⟨rfl, rfl⟩) rfl, padd_5 h5, eM_sort v.m hs, if_pos rfl, if_neg (by decide), hl0]
      have : padM v.m (ba nm) x = v.m.take (rinsK v.m (ba nm)) ++ ([(ba nm, x)] ++ v.m.drop (rinsK v.m (ba nm) + if fnd v.m (ba nm) = true then 1 else 0)) := by
        unfold padM
        by_cases hf : fnd v.m (ba nm) = true
        · obtain ⟨q, hq, _⟩ := fnd_get hf
          rw [if_pos hf, if_pos hf, List.set_eq_take_append_cons_drop, if_pos (List.getElem?_eq_some_iff.1 hq).1]; rfl
        · rw [if_neg hf, if_neg hf]; rfl
      rw [this]; rfl
    · rw [jedM_no hl h4 (.inl h5), padd_n h4 h5]; rfl
theorem rem_base (x : JV) (nm : BL) (v : JV) (h : jst v) : jed 2 x [nm] v = ((prem nm v).1, eC (prem nm v).2) := by
  have hs := st_ms h
  have hl : ([] : List BL).isEmpty = true := rfl
  by_cases h4 : v.kind = 4
  · have hm0 : v.m = [] := st_nom h (by omega)
    have hjo : jeO 2 nm true v = jixO nm v.l.length false := rfl
    have hjk : jeK 2 nm true v = jixN nm v.l.length false := rfl
    by_cases ho : jixO nm v.l.length false = true
    · obtain ⟨k, hk, hkl⟩ := jix_nat ho
      rw [jedA_ok hl h4 (by rw [hjk, hk]) (by rw [hjo]; exact ho) (fun h => by cases h), prem_4 h4 ho hk, eA_del hkl, hm0]; rfl
    · rw [jedA_no hl h4 (by rw [hjo]; simpa using ho), prem_no h4 (by simpa using ho)]; rfl
  · by_cases h5 : v.kind = 5
    · have hl0 : v.l = [] := st_nol h h4
      by_cases hf : fnd v.m (ba nm) = true
      · rw [jedM_ok hl h4 h5 (.inl (by rw [jfB_fnd h5 hs]; exact hf)) rfl, prem_5 h5 hf, eM_sort v.m hs, if_pos rfl, if_pos rfl, if_pos hf, hl0]; rfl
      · rw [jedM_no hl h4 (.inr ⟨by rw [jfB_fnd h5 hs]; simpa using hf, .inl (by decide)⟩), prem_no5 h5 (by simpa using hf)]; rfl
    · rw [jedM_no hl h4 (.inl h5), prem_n h4 h5]; rfl
theorem rep_base (x : JV) (nm : BL) (v : JV) (h : jst v) : jed 3 x [nm] v = ((pwi (fun _ => (x, true)) [nm] v).1, eC (pwi (fun _ => (x, true)) [nm] v).2) := by
  have hs := st_ms h
  have hl : ([] : List BL).isEmpty = true := rfl
  by_cases h4 : v.kind = 4
  · have hm0 : v.m = [] := st_nom h (by omega)
    have hjo : jeO 3 nm true v = jixO nm v.l.length false := rfl
    have hjk : jeK 3 nm true v = jixN nm v.l.length false := rfl
    by_cases ho : jixO nm v.l.length false = true
    · obtain ⟨k, hk, hkl⟩ := jix_nat ho
      have ha : v.l[k]? = some v.l[k] := List.getElem?_eq_getElem hkl
      rw [jedA_ok hl h4 (by rw [hjk, hk]) (by rw [hjo]; exact ho) (fun h => by cases h), pwi_4 h4 ho hk ha rfl, eA_rep hkl, hm0]; rfl
    · rw [jedA_no hl h4 (by rw [hjo]; simpa using ho), pwi_no4 h4 (by simpa using ho)]; rfl
  · by_cases h5 : v.kind = 5
    · have hl0 : v.l = [] := st_nol h h4
      by_cases hf : fnd v.m (ba nm) = true
      · obtain ⟨q, hq, _⟩ := fnd_get hf
        rw [jedM_ok hl h4 h5 (.inl (by rw [jfB_fnd h5 hs]; exact hf)) rfl, pwi_5 h4 h5 hf hq rfl, eM_sort v.m hs, if_pos rfl, if_neg (by decide), if_pos hf, hl0, List.set_eq_take_append_cons_drop, if_pos (List.getElem?_eq_some_iff.1 hq).1]; rfl
      · rw [jedM_no hl h4 (.inr ⟨by rw [jfB_fnd h5 hs]; simpa using hf, .inl (by decide)⟩), pwi_no5 h4 (by simpa using hf)]; rfl
    · rw [jedM_no hl h4 (.inl h5), pwi_n h4 h5]; rfl
theorem pwi_app {g : JV → JV × Bool} (r : List BL) : ∀ (l : List BL) (v : JV), pwi g (l ++ r) v = pwi (pwi g r) l v
  | [], v => rfl
  | nm :: l, v => by rw [List.cons_append, pwi, pwi]; simp only [pwi_app r l]
theorem jed_add (x : JV) (l : List BL) (nm : BL) (v : JV) (h : jst v) : jed 1 x (l ++ [nm]) v = ((pwi (padd nm x) l v).1, eC (pwi (padd nm x) l v).2) := jed_pwi (by simp) (add_base x nm) l v h
theorem jed_rem (x : JV) (l : List BL) (nm : BL) (v : JV) (h : jst v) : jed 2 x (l ++ [nm]) v = ((pwi (prem nm) l v).1, eC (pwi (prem nm) l v).2) := jed_pwi (by simp) (rem_base x nm) l v h
theorem jed_rep (x : JV) (l : List BL) (v : JV) (h : jst v) : jed 3 x l v = ((pwi (fun _ => (x, true)) l v).1, eC (pwi (fun _ => (x, true)) l v).2) := by
  rcases List.eq_nil_or_concat l with rfl | ⟨l0, nm, rfl⟩
  · rw [jed_nil (by decide)]; rfl
  · rw [List.concat_eq_append, pwi_app]; exact jed_pwi (by simp) (rep_base x nm) l0 v h
end Lg
namespace Lg
mutual
def jq : JV → JV → Bool
  | .mk k b n s l m, .mk k' b' n' s' l' m' => decide (k = k') && decide (b = b') && decide (n.neg = n'.neg) && decide (n.digits.data = n'.digits.data) && decide (n.exp = n'.exp) && decide (s.data = s'.data) && jqL l l' && jqM m m'
def jqL : List JV → List JV → Bool
  | [], [] => true
  | x :: r, y :: q => jq x y && jqL r q
  | [], _ :: _ => false
  | _ :: _, [] => false
def jqM : List (ByteArray × JV) → List (ByteArray × JV) → Bool
  | [], [] => true
  | (a, x) :: r, (c, y) :: q => decide (a.data = c.data) && jq x y && jqM r q
  | [], _ :: _ => false
  | _ :: _, [] => false
end
mutual
theorem jq_eq : ∀ {v w : JV}, jq v w = true → v = w
  | .mk k b n s l m, .mk k' b' n' s' l' m', h => by
    simp only [jq, Bool.and_eq_true, decide_eq_true_eq] at h
    obtain ⟨⟨⟨⟨⟨⟨⟨h1, h2⟩, h3⟩, h4⟩, h5⟩, h6⟩, h7⟩, h8⟩ := h
    have hl := jqL_eq h7
    have hm := jqM_eq h8
    obtain ⟨a, ⟨d⟩, e⟩ := n
    obtain ⟨a', ⟨d'⟩, e'⟩ := n'
    obtain ⟨s⟩ := s
    obtain ⟨s'⟩ := s'
    simp only at h3 h4 h5 h6
    subst h1 h2 h3 h4 h5 h6 hl hm
    rfl
theorem jqL_eq : ∀ {l q : List JV}, jqL l q = true → l = q
  | [], [], _ => rfl
  | x :: r, y :: q, h => by
    simp only [jqL, Bool.and_eq_true] at h
    rw [jq_eq h.1, jqL_eq h.2]
  | [], _ :: _, h => by simp [jqL] at h
  | _ :: _, [], h => by simp [jqL] at h
theorem jqM_eq : ∀ {l q : List (ByteArray × JV)}, jqM l q = true → l = q
  | [], [], _ => rfl
  | (⟨a⟩, x) :: r, (⟨c⟩, y) :: q, h => by
    simp only [jqM, Bool.and_eq_true, decide_eq_true_eq] at h
    obtain ⟨⟨h1, h2⟩, h3⟩ := h
    subst h1
    rw [jq_eq h2, jqM_eq h3]
  | [], _ :: _, h => by simp [jqM] at h
  | _ :: _, [], h => by simp [jqM] at h
end
end Lg
set_option maxRecDepth 20000
set_option maxHeartbeats 4000000
namespace Lg
open Go Go.Proofs Go.RowKit
variable [GLay] 
def ex1n : ByteArray := ⟨#[91, 49, 44, 110, 117, 108, 108, 93]⟩
theorem ex1_0 : (rParse ex16).2.1 = 0 ∧ (rParse ex1n).2.1 = 0 := by rw [rParse_C (by decide), rParse_C (by decide)]; decide +kernel
theorem ex1_q : (padd [45] vz (rParse ex16).1).2 = true := by rw [rParse_C (by decide)]; decide +kernel
theorem ex1_r : jq (padd [45] vz (rParse ex16).1).1 (rParse ex1n).1 = true := by rw [rParse_C (by decide), rParse_C (by decide)]; decide +kernel
theorem ex1_p : padd [45] vz (rParse ex16).1 = ((rParse ex1n).1, true) := Prod.ext (jq_eq ex1_r) ex1_q
theorem parse7_c (σ : List AO) : ACalls Tryz.prog 30 [.str ⟨#[91, 49, 93]⟩] σ (Ret (.tup [.agg (vcells (rParse ex16).1), .int .i64 (rParse ex16).2.1, .int .i64 (rParse ex16).2.2]) σ) := parse_c ex16 σ (by decide)
theorem parse7b_c (σ : List AO) : ACalls Tryz.prog 30 [.str ⟨#[91, 49, 44, 110, 117, 108, 108, 93]⟩] σ (Ret (.tup [.agg (vcells (rParse ex1n).1), .int .i64 (rParse ex1n).2.1, .int .i64 (rParse ex1n).2.2]) σ) := parse_c ex1n σ (by decide)
theorem eadd7_c (v w : JV) (cs : List AV) (σ : List AO) (hc : vcells v = cs) (hjb : jb v) (hmay : jst v) (hp : padd [45] vz v = (w, true)) : ACalls Tryz.prog 13 [.agg cs, .sl true 1 [[.str ⟨#[45]⟩]], .agg [.int .i64 0, .bool false, .bool false, .str ⟨#[]⟩, .int .i64 0, .str ⟨#[]⟩, .nils, .nils]] σ (Ret (.tup [.agg (vcells w), gerr true]) σ) := by
  have h := eadd_1 vz _ rfl [] [45] (by simp) (by decide) (by decide) true v cs σ hc hjb hmay
  rw [show pwi (padd [45] vz) [] v = padd [45] vz v from rfl, hp] at h
  exact ACalls.conv (args' := [.agg cs, .sl true 1 (srow ([] ++ [[45]])), .agg (vcells vz)]) ⟨AVle.refl _, AVle.refl _, AVle.agg (vle8 nilL nilM), trivial⟩ h
theorem erem7_c (v : JV) (cs : List AV) (σ : List AO) (hc : vcells v = cs) (hjb : jb v) (hmay : jst v) : ACalls Tryz.prog 14 [.agg cs, .nils] σ (Ret (.tup [.agg (vcells vz), .iface 69 (.int .i64 7)]) σ) :=
  ACalls.conv (args' := [.agg cs, .sl false 1 (srow [])]) ⟨AVle.refl _, AVle.nils false 1, trivial⟩ (erem_0 false v cs σ hc hjb hmay)
theorem up7_c (σ : List AO) : ACalls Tryz.prog 10 [] σ (Ret (.bool true) σ) := by
 refine ACalls_body Tryz.func10 rfl Tryz.ntmps10 (res1 Tryz.results10) (Nat.le_of_ble_eq_true rfl) (fun hcl hal => ?_)
 refine zw1 ?_
 refine zsr ?_
 refine zt rfl (zc rfl (parse7_c _)) ?_
 obtain ⟨hmay, hjb, _⟩ := rParse_ok ex16 ex1_0.1
 have hmay := may_st hmay
 have hp := ex1_p
 generalize (rParse ex16).1 = v at hmay hjb hp ⊢
 rw [vcells_eq v]
 refine zv8 ?_
 refine zsr ?_
 refine zt rfl (zc rfl (parse7b_c _)) ?_
 have hjw := (rParse_ok ex1n ex1_0.2).2.1
 generalize (rParse ex1n).1 = w at hp hjw ⊢
 rw [vcells_eq w]
 refine zv8 ?_
 refine zu1 ?_
 refine zt rfl (op_buildSlice [[_]] rfl Tryz.underlying31 Tryz.sizeOf9 Tryz.zeroValue9 rfl (by decide) (by decide) rfl rfl rfl rfl rfl) ?_
 refine zg1 ?_
 refine zt rfl (zc rfl (eadd7_c v w _ _ (vcells_eq v) hjb hmay hp)) ?_
 rw [vcells_eq w]
 refine zv6 ?_
 refine zu1 ?_
 refine zt rfl (zc rfl (erem7_c v _ _ (vcells_eq v) hjb hmay)) ?_
 rw [vcells_eq vz]
 refine zv6 ?_
 refine zu2 ?_
 refine zt rfl (zc rfl (rsameQ_c w _ _ (vcells_eq w) hjw)) ?_
 refine zv1 ?_
 refine zu1 ?_
 refine zt rfl (op_eqGerr rfl Tryz.underlying35 rfl) ?_
 refine zg5 ?_
 refine ztG rfl rfl (zc rfl (code_k 7 _ (by decide) (by decide))) ?_
 refine ztG rfl rfl (op_eqlT rfl rfl rfl rfl) ?_
 refine zv2 ?_
 refine zrt ?_
 exact ResQ_1 rfl hcl (by simp [AV.lt, AV.ltL]) ⟨rfl, rfl⟩
end Lg
namespace Lg
open Go
theorem lb_iff (l : List JV) : lb l ↔ ∀ x ∈ l, jb x := by
  induction l with
  | nil => simp [lb]
  | cons a r ih => simp [lb, ih]
theorem mb_iff (m : List (ByteArray × JV)) : mb m ↔ ∀ q ∈ m, q.1.size ≤ 1000000 ∧ jb q.2 := by
  induction m with
  | nil => simp [mb]
  | cons a r ih => obtain ⟨k, v⟩ := a; simp [mb, ih, and_assoc]
theorem vz_jb0 : jb vz := vz_jb.1
theorem vz_js : jsize vz = 1 := by simp [vz, jsize, lsize, msize]
theorem gd_l {v : JV} {k : Nat} (hs : jsize v ≤ 10000) (hb : jb v) : jsize (v.l.getD k vz) ≤ 10000 ∧ jb (v.l.getD k vz) := by
  rw [List.getD_eq_getElem?_getD]
  cases h : v.l[k]? with
  | none => exact ⟨by rw [Option.getD_none, vz_js]; decide, vz_jb0⟩
  | some x =>
    have h1 := lsize_mem h
    have h2 := jsize_eq v
    have h3 := msize_nn v.m
    exact ⟨by rw [Option.getD_some]; omega, lb_get ((jb_eq v).1 hb).2.2.2.2.1 h⟩
theorem gd_m {v : JV} {k : Nat} {key : ByteArray} (hs : jsize v ≤ 10000) (hb : jb v) : jsize (v.m.getD k (key, vz)).2 ≤ 10000 ∧ jb (v.m.getD k (key, vz)).2 := by
  rw [List.getD_eq_getElem?_getD]
  cases h : v.m[k]? with
  | none => exact ⟨by rw [Option.getD_none, vz_js]; decide, vz_jb0⟩
  | some x =>
    have h1 := msize_mem h
    have h2 := jsize_eq v
    have h3 := lsize_nn v.l
    exact ⟨by rw [Option.getD_some]; omega, ((mb_iff _).1 ((jb_eq v).1 hb).2.2.2.2.2 x (List.mem_of_getElem? h)).2⟩
theorem ba_le {nm : BL} (h : nm.length ≤ 1000000) : (ba nm).size ≤ 1000000 := by rw [ba_size]; exact h
theorem pwi_jb {g : JV → JV × Bool} (hg : ∀ v, jsize v ≤ 10000 → jb v → jb (g v).1) : ∀ (l : List BL) (v : JV), (∀ n ∈ l, n.length ≤ 1000000) → jsize v ≤ 10000 → jb v → jb (pwi g l v).1
  | [], v, _, hs, hb => hg v hs hb
  | nm :: r, v, hl, hs, hb => by
    have ih := pwi_jb hg r
    have hl' : ∀ n ∈ r, n.length ≤ 1000000 := fun n h => hl n (List.mem_cons_of_mem _ h)
    have hv := (jb_eq v).1 hb
    rw [pwi]
    split
    · split
      · rw [jb_eq]
        refine ⟨hv.1, hv.2.1, by simp only [JV.l, List.length_set]; exact hv.2.2.1, hv.2.2.2.1, (lb_iff _).2 fun x hx => ?_, hv.2.2.2.2.2⟩
        rcases List.mem_or_eq_of_mem_set hx with h | h
        · exact (lb_iff _).1 hv.2.2.2.2.1 x h
        · rw [h]; exact ih _ hl' (gd_l hs hb).1 (gd_l hs hb).2
      · exact vz_jb0
    · split
      · rw [jb_eq]
        refine ⟨hv.1, hv.2.1, hv.2.2.1, by simp only [JV.m, List.length_set]; exact hv.2.2.2.1, hv.2.2.2.2.1, (mb_iff _).2 fun x hx => ?_⟩
        rcases List.mem_or_eq_of_mem_set hx with h | h
        · exact (mb_iff _).1 hv.2.2.2.2.2 x h
        · rw [h]; exact ⟨ba_le (hl nm (List.mem_cons_self ..)), ih _ hl' (gd_m hs hb).1 (gd_m hs hb).2⟩
      · exact vz_jb0
theorem lsize_ln : ∀ l : List JV, (l.length : Int) ≤ lsize l
  | [] => by simp [lsize]
  | a :: r => by have h1 := lsize_ln r; have h2 := jsize_pos a; simp only [lsize, List.length_cons]; omega
theorem msize_ln : ∀ l : List (ByteArray × JV), (l.length : Int) ≤ msize l
  | [] => by simp [msize]
  | (k, a) :: r => by have h1 := msize_ln r; have h2 := jsize_pos a; simp only [msize, List.length_cons]; omega
theorem jl_ln {v : JV} (hs : jsize v ≤ 10000) : v.l.length ≤ 10000 ∧ v.m.length ≤ 10000 := by
  have h2 := jsize_eq v
  have h3 := lsize_ln v.l
  have h4 := msize_ln v.m
  omega
theorem padd_jb {nm : BL} {x : JV} (hn : nm.length ≤ 1000000) (hx : jb x) (v : JV) (hs : jsize v ≤ 10000) (hb : jb v) : jb (padd nm x v).1 := by
  have hv := (jb_eq v).1 hb
  have hln := jl_ln hs
  unfold padd
  split
  · split
    · rw [jb_eq]
      refine ⟨hv.1, hv.2.1, ?_, hv.2.2.2.1, (lb_iff _).2 fun y hy => ?_, hv.2.2.2.2.2⟩
      · show List.length (_ ++ _) ≤ _
        simp only [List.length_append, List.length_take, List.length_cons, List.length_drop]; omega
      · rcases List.mem_append.1 hy with h | h
        · exact (lb_iff _).1 hv.2.2.2.2.1 y (List.mem_of_mem_take h)
        · rcases List.mem_cons.1 h with h | h
          · rw [h]; exact hx
          · exact (lb_iff _).1 hv.2.2.2.2.1 y (List.mem_of_mem_drop h)
    · exact vz_jb0
  · split
    · rw [jb_eq]
      have hm : (padM v.m (ba nm) x).length ≤ 1000000 ∧ ∀ q ∈ padM v.m (ba nm) x, q.1.size ≤ 1000000 ∧ jb q.2 := by
        unfold padM
        split
        · refine ⟨by rw [List.length_set]; omega, fun q hq => ?_⟩
          rcases List.mem_or_eq_of_mem_set hq with h | h
          · exact (mb_iff _).1 hv.2.2.2.2.2 q h
          · rw [h]; exact ⟨ba_le hn, hx⟩
        · refine ⟨by simp only [List.length_append, List.length_take, List.length_cons, List.length_drop]; omega, fun q hq => ?_⟩
          rcases List.mem_append.1 hq with h | h
          · exact (mb_iff _).1 hv.2.2.2.2.2 q (List.mem_of_mem_take h)
          · rcases List.mem_cons.1 h with h | h
            · rw [h]; exact ⟨ba_le hn, hx⟩
            · exact (mb_iff _).1 hv.2.2.2.2.2 q (List.mem_of_mem_drop h)
      exact ⟨hv.1, hv.2.1, hv.2.2.1, hm.1, hv.2.2.2.2.1, (mb_iff _).2 hm.2⟩
    · exact vz_jb0
theorem prem_jb {nm : BL} (v : JV) (hs : jsize v ≤ 10000) (hb : jb v) : jb (prem nm v).1 := by
  have hv := (jb_eq v).1 hb
  have hln := jl_ln hs
  unfold prem
  split
  · split
    · rw [jb_eq]
      refine ⟨hv.1, hv.2.1, ?_, hv.2.2.2.1, (lb_iff _).2 fun y hy => ?_, hv.2.2.2.2.2⟩
      · show List.length (_ ++ _) ≤ _
        simp only [List.length_append, List.length_take, List.length_drop]; omega
      · rcases List.mem_append.1 hy with h | h
        · exact (lb_iff _).1 hv.2.2.2.2.1 y (List.mem_of_mem_take h)
        · exact (lb_iff _).1 hv.2.2.2.2.1 y (List.mem_of_mem_drop h)
    · exact vz_jb0
  · split
    · split
      · rw [jb_eq]
        refine ⟨hv.1, hv.2.1, hv.2.2.1, ?_, hv.2.2.2.2.1, (mb_iff _).2 fun q hq => ?_⟩
        · show List.length (_ ++ _) ≤ _
          simp only [List.length_append, List.length_take, List.length_drop]; omega
        · rcases List.mem_append.1 hq with h | h
          · exact (mb_iff _).1 hv.2.2.2.2.2 q (List.mem_of_mem_take h)
          · exact (mb_iff _).1 hv.2.2.2.2.2 q (List.mem_of_mem_drop h)
      · exact vz_jb0
    · exact vz_jb0
theorem jed_jb [GLay] {op : Int} (hop : op = 1 ∨ op = 2 ∨ op = 3) {x : JV} (hx : jb x) (l : List BL) (hl : ∀ n ∈ l, n.length ≤ 1000000) {v : JV} (hs : jsize v ≤ 10000) (hb : jb v) (hm : jst v) : jb (jed op x l v).1 ∧ 0 ≤ (jed op x l v).2 ∧ (jed op x l v).2 ≤ 7 := by
  have he : ∀ b, 0 ≤ eC b ∧ eC b ≤ 7 := by decide
  rcases hop with rfl | rfl | rfl
  · rcases List.eq_nil_or_concat l with rfl | ⟨l0, nm, rfl⟩
    · rw [jed_nil (by decide)]; exact ⟨hx, Int.le_refl _, show (0 : Int) ≤ 7 by decide⟩
    · rw [List.concat_eq_append] at *
      rw [jed_add x l0 nm v hm]
      exact ⟨pwi_jb (padd_jb (hl nm (by simp)) hx) l0 v (fun n h => hl n (List.mem_append_left _ h)) hs hb, he _⟩
  · rcases List.eq_nil_or_concat l with rfl | ⟨l0, nm, rfl⟩
    · rw [jed_nil2]; exact ⟨vz_jb0, show (0 : Int) ≤ 7 by decide, Int.le_refl _⟩
    · rw [List.concat_eq_append] at *
      rw [jed_rem x l0 nm v hm]
      exact ⟨pwi_jb prem_jb l0 v (fun n h => hl n (List.mem_append_left _ h)) hs hb, he _⟩
  · rw [jed_rep x l v hm]
    exact ⟨pwi_jb (fun _ _ _ => hx) l v hl hs hb, he _⟩
end Lg
set_option maxRecDepth 20000
set_option maxHeartbeats 4000000
namespace Lg
open Go Go.Proofs Go.RowKit
variable [GLay] 
def cerJ (k : Int) : AV := if k = 0 then .nili else .iface 69 (.int .i64 k)
theorem cerJ_b (b : Bool) : gerr b = cerJ (eC b) := by cases b <;> rfl
theorem eaddJ_c (x : JV) (xs : List AV) (hxs : vcells x = xs) (l : List BL) (hl : ∀ n ∈ l, n.length ≤ 1000000) (hll : l.length ≤ 1000000) (f : Bool) (v : JV) (cs : List AV) (σ : List AO) (hc : vcells v = cs) (hjb : jb v) (hmay : jst v) : ACalls Tryz.prog 13 [.agg cs, .sl f 1 (srow l), .agg xs] σ (Ret (.tup [.agg (vcells (jed 1 x l v).1), cerJ (jed 1 x l v).2]) σ) := by
  rcases List.eq_nil_or_concat l with rfl | ⟨l0, nm, rfl⟩
  · rw [jed_nil (by decide)]; exact eadd_0 x xs hxs f v cs σ hc hjb hmay
  · rw [List.concat_eq_append] at *
    rw [jed_add x l0 nm v hmay, ← cerJ_b]
    exact eadd_1 x xs hxs l0 nm (fun n hn => hl n (List.mem_append_left _ hn)) (by rw [List.length_append] at hll; omega) (hl nm (by simp)) f v cs σ hc hjb hmay
theorem eremJ_c (x : JV) (l : List BL) (hl : ∀ n ∈ l, n.length ≤ 1000000) (hll : l.length ≤ 1000000) (f : Bool) (v : JV) (cs : List AV) (σ : List AO) (hc : vcells v = cs) (hjb : jb v) (hmay : jst v) : ACalls Tryz.prog 14 [.agg cs, .sl f 1 (srow l)] σ (Ret (.tup [.agg (vcells (jed 2 x l v).1), cerJ (jed 2 x l v).2]) σ) := by
  rcases List.eq_nil_or_concat l with rfl | ⟨l0, nm, rfl⟩
  · exact erem_0 f v cs σ hc hjb hmay
  · rw [List.concat_eq_append] at *
    rw [jed_rem x l0 nm v hmay, ← cerJ_b]
    exact erem_1 l0 nm (fun n hn => hl n (List.mem_append_left _ hn)) (by rw [List.length_append] at hll; omega) (hl nm (by simp)) f v cs σ hc hjb hmay
theorem erepJ_c (x : JV) (xs : List AV) (hxs : vcells x = xs) (l : List BL) (hl : ∀ n ∈ l, n.length ≤ 1000000) (f : Bool) (v : JV) (cs : List AV) (σ : List AO) (hc : vcells v = cs) (hjb : jb v) (hmay : jst v) : ACalls Tryz.prog 15 [.agg cs, .sl f 1 (srow l), .agg xs] σ (Ret (.tup [.agg (vcells (jed 3 x l v).1), cerJ (jed 3 x l v).2]) σ) := by
  rw [jed_rep x l v hmay, ← cerJ_b]
  exact erep_c x xs hxs l hl f v cs σ hc hjb hmay
theorem ptQ_l (p : ByteArray) : ∀ n ∈ (ptQ p).1, n.length ≤ 1000000 := by
  have hpn := pN_ok p.data.toList
  have hsz : p.data.toList.length = p.size := Array.length_toList ..
  unfold ptQ
  split
  · rename_i h; intro n hn; have := hpn.2 n hn; have := h.1.1; omega
  · intro n hn; cases hn
theorem ptQ_n2 (p : ByteArray) : (ptQ p).1.length ≤ 1000000 := by
  have hpn := pN_ok p.data.toList
  have hsz : p.data.toList.length = p.size := Array.length_toList ..
  unfold ptQ
  split
  · rename_i h; have := hpn.1; have := h.1.1; show (pN p.data.toList).length ≤ _; omega
  · exact Nat.zero_le _
end Lg
set_option maxRecDepth 20000
set_option maxHeartbeats 4000000
namespace Lg
open Go Go.Proofs Go.RowKit
variable [GLay] 
theorem ritoaP (m : Nat) : ∀ (n : Int) (σ : List AO), 0 ≤ n → n < m → n ≤ 9223372036854775807 → ACalls Tryz.prog 51 [.int .i64 n] σ (Ret (.str (itoaB n)) σ) := by
 induction m with
 | zero => intro n σ h1 h2 h3; omega
 | succ m ih =>
 intro n σ hn1 hn2 hn3
 refine ACalls_body Tryz.func51 rfl Tryz.ntmps51 (res1 Tryz.results51) (Nat.le_of_ble_eq_true rfl) (fun hcl hal => ?_)
 have h1s : ∀ x, (ByteArray.mk #[x]).size = 1 := fun x => rfl
 have hsz := itoa_size (n := n / 10) (by omega) (by omega)
 have hsz2 := itoa_size (n := -n) (by omega) (by omega)
 have hs3 := h1s (u8b (48 + n % 10))
 have hs4 := h1s 45
 refine zw1 ?_
 refine AWp_seq ?_
 refine zw2 ?_
 refine AWp_cond rfl (fun h1 => ?_) (fun h1 => ?_)
 ·(try rw [h1]); replace h1 := zcl h1
  exfalso; omega
 ·(try rw [h1]); replace h1 := zcl h1
  refine AWp_skip ?_
  refine AWp_seq ?_
  refine zw2 ?_
  refine AWp_cond rfl (fun h2 => ?_) (fun h2 => ?_)
  ·(try rw [h2]); replace h2 := zcl h2
   refine zu3 ?_
   refine zt rfl (op_buildSlice [[_]] rfl Tryz.underlying102 Tryz.sizeOf5 Tryz.zeroValue5 rfl (by decide) (by decide) rfl rfl rfl rfl rfl) ?_
   refine zt rfl (op_bytesStr (b := _) (m := 1) rfl Tryz.underlying102 Tryz.underlying5 Tryz.underlying9 (bs1 ⟨by omega, by omega⟩) rfl rfl) ?_
   refine zv1 ?_
   refine zrt ?_
   rw [itoa_small (by omega) h2]
   exact ResQ_10 rfl hcl trivial (Ret_of rfl)
  ·(try rw [h2]); replace h2 := zcl h2
   refine AWp_skip ?_
   refine AWp_seq ?_
   refine AWp_drawL #[0, 1, 3, 0, 8, 24, 56, 120, 248, 511, 1023] Tryz.mixed (by decide +kernel) (by decide +kernel) ?_
   refine zd1 ?_
   refine yA rfl rfl (fun _ => op_quo64 rfl rfl rfl (by omega) (by omega) (by omega)) ?_
   refine yP rfl rfl (zc rfl (ih (n / 10) _ (by omega) (by omega) (by omega))) (trivial) ?_
   refine zd1 ?_
   refine yA rfl rfl (fun _ => op_rem64 rfl rfl rfl (by omega) (by omega)) ?_
   refine zd2 ?_
   refine yA rfl rfl (fun _ => op_buildSlice [[_]] rfl Tryz.underlying102 Tryz.sizeOf5 Tryz.zeroValue5 rfl (by decide) (by decide) rfl rfl rfl rfl rfl) ?_
   refine yA rfl rfl (fun _ => op_bytesStr (b := _) (m := 1) rfl Tryz.underlying102 Tryz.underlying5 Tryz.underlying9 (bs1 ⟨by omega, by omega⟩) rfl rfl) ?_
   refine zd2 ?_
   refine RP.nil rfl ?_
   refine zrt ?_
   rw [itoa_big (by omega)]
   exact ResQ_10 rfl hcl trivial (Ret_of rfl)

theorem ritoa_c (n : Int) (σ : List AO) (hn3 : -9223372036854775807 ≤ n) (hn4 : n ≤ 9223372036854775807) : ACalls Tryz.prog 51 [.int .i64 n] σ (Ret (.str (itoaB n)) σ) := by
 refine ACalls_body Tryz.func51 rfl Tryz.ntmps51 (res1 Tryz.results51) (Nat.le_of_ble_eq_true rfl) (fun hcl hal => ?_)
 have h1s : ∀ x, (ByteArray.mk #[x]).size = 1 := fun x => rfl
 have hsz := itoa_size (n := n / 10) (by omega) (by omega)
 have hsz2 := itoa_size (n := -n) (by omega) (by omega)
 have hs3 := h1s (u8b (48 + n % 10))
 have hs4 := h1s 45
 refine zw1 ?_
 refine AWp_seq ?_
 refine zw2 ?_
 refine AWp_cond rfl (fun h1 => ?_) (fun h1 => ?_)
 ·(try rw [h1]); replace h1 := zcl h1
  refine zu1 ?_
  refine zt rfl (op_neg64 rfl rfl (by omega) (by omega)) ?_
  refine zt rfl (zc rfl (ritoaP ((-n).toNat + 1) (-n) _ (by omega) (by omega) (by omega))) ?_
  refine zv2 ?_
  refine zrt ?_
  rw [itoa_neg h1]
  exact ResQ_10 rfl hcl trivial (Ret_of rfl)
 ·(try rw [h1]); replace h1 := zcl h1
  refine AWp_skip ?_
  refine AWp_seq ?_
  refine zw2 ?_
  refine AWp_cond rfl (fun h2 => ?_) (fun h2 => ?_)
  ·(try rw [h2]); replace h2 := zcl h2
   refine zu3 ?_
   refine zt rfl (op_buildSlice [[_]] rfl Tryz.underlying102 Tryz.sizeOf5 Tryz.zeroValue5 rfl (by decide) (by decide) rfl rfl rfl rfl rfl) ?_
   refine zt rfl (op_bytesStr (b := _) (m := 1) rfl Tryz.underlying102 Tryz.underlying5 Tryz.underlying9 (bs1 ⟨by omega, by omega⟩) rfl rfl) ?_
   refine zv1 ?_
   refine zrt ?_
   rw [itoa_small (by omega) h2]
   exact ResQ_10 rfl hcl trivial (Ret_of rfl)
  ·(try rw [h2]); replace h2 := zcl h2
   refine AWp_skip ?_
   refine AWp_seq ?_
   refine AWp_drawL #[0, 1, 3, 0, 8, 24, 56, 120, 248, 511, 1023] Tryz.mixed (by decide +kernel) (by decide +kernel) ?_
   refine zd1 ?_
   refine yA rfl rfl (fun _ => op_quo64 rfl rfl rfl (by omega) (by omega) (by omega)) ?_
   refine yP rfl rfl (zc rfl (ritoaP ((n / 10).toNat + 1) (n / 10) _ (by omega) (by omega) (by omega))) (trivial) ?_
   refine zd1 ?_
   refine yA rfl rfl (fun _ => op_rem64 rfl rfl rfl (by omega) (by omega)) ?_
   refine zd2 ?_
   refine yA rfl rfl (fun _ => op_buildSlice [[_]] rfl Tryz.underlying102 Tryz.sizeOf5 Tryz.zeroValue5 rfl (by decide) (by decide) rfl rfl rfl rfl rfl) ?_
   refine yA rfl rfl (fun _ => op_bytesStr (b := _) (m := 1) rfl Tryz.underlying102 Tryz.underlying5 Tryz.underlying9 (bs1 ⟨by omega, by omega⟩) rfl rfl) ?_
   refine zd2 ?_
   refine RP.nil rfl ?_
   refine zrt ?_
   rw [itoa_big (by omega)]
   exact ResQ_10 rfl hcl trivial (Ret_of rfl)

theorem rshow_c (n : JNum) (σ : List AO) (hb : n.digits.size ≤ 1000000 ∧ -1000000 ≤ n.exp ∧ n.exp ≤ 1000000) : ACalls Tryz.prog 49 [.agg (ncells n)] σ (Ret (.str (jshow n)) σ) := by
 refine ACalls_body Tryz.func49 rfl Tryz.ntmps49 (res1 Tryz.results49) (Nat.le_of_ble_eq_true rfl) (fun hcl hal => ?_)
 have h1s : (ByteArray.mk #[45]).size = 1 := rfl
 have h2s : (ByteArray.mk #[101]).size = 1 := rfl
 have hsz := itoa_size (n := n.exp) (by omega) (by omega)
 have hsa := ByteArray.size_append (a := (⟨#[45]⟩ : ByteArray)) (b := n.digits)
 have hsb := ByteArray.size_append (a := n.digits) (b := (⟨#[101]⟩ : ByteArray))
 have hsc := ByteArray.size_append (a := (⟨#[45]⟩ : ByteArray) ++ n.digits) (b := (⟨#[101]⟩ : ByteArray))
 refine zw2 ?_
 refine AWp_seq ?_
 refine zw3 ?_
 refine AWp_cond rfl (fun h1 => ?_) (fun h1 => ?_)
 ·(try rw [h1]); replace h1 := zcl h1
  refine zw1 ?_
  refine zrt ?_
  refine ResQ_1 rfl hcl trivial (Ret_of ?_)
  unfold jshow; first | (rw [if_pos (by assumption)]; done) | (rw [if_neg (by assumption), if_pos (by assumption), if_pos (by assumption)]; done) | (rw [if_neg (by assumption), if_pos (by assumption), if_neg (by simp [*])]; done) | (rw [if_neg (by assumption), if_neg (by assumption), if_pos (by assumption)]; done) | (rw [if_neg (by assumption), if_neg (by assumption), if_neg (by simp [*])]; done)
 ·(try rw [h1]); replace h1 := zcl h1
  refine AWp_skip ?_
  refine zw3 ?_
  refine AWp_seq ?_
  refine zw2 ?_
  refine AWp_cond rfl (fun h2 => ?_) (fun h2 => ?_)
  ·(try rw [h2]); replace h2 := zcl h2
   refine AWp_regL ?_
   refine zv3 ?_
   refine AWp_seq ?_
   refine zw3 ?_
   refine AWp_cond rfl (fun h3 => ?_) (fun h3 => ?_)
   ·(try rw [h3]); replace h3 := zcl h3
    refine AWp_regL ?_
    refine zg4 ?_
    refine zt rfl (zc rfl (ritoa_c n.exp _ (by omega) (by omega))) ?_
    refine zv2 ?_
    refine zw2 ?_
    refine zrt ?_
    refine ResQ_1 rfl hcl trivial (Ret_of ?_)
    unfold jshow; first | (rw [if_pos (by assumption)]; done) | (rw [if_neg (by assumption), if_pos (by assumption), if_pos (by assumption)]; done) | (rw [if_neg (by assumption), if_pos (by assumption), if_neg (by simp [*])]; done) | (rw [if_neg (by assumption), if_neg (by assumption), if_pos (by assumption)]; done) | (rw [if_neg (by assumption), if_neg (by assumption), if_neg (by simp [*])]; done)
   ·(try rw [h3]); replace h3 := zcl h3
    refine AWp_skip ?_
    refine zw2 ?_
    refine zrt ?_
    refine ResQ_1 rfl hcl trivial (Ret_of ?_)
    unfold jshow; first | (rw [if_pos (by assumption)]; done) | (rw [if_neg (by assumption), if_pos (by assumption), if_pos (by assumption)]; done) | (rw [if_neg (by assumption), if_pos (by assumption), if_neg (by simp [*])]; done) | (rw [if_neg (by assumption), if_neg (by assumption), if_pos (by assumption)]; done) | (rw [if_neg (by assumption), if_neg (by assumption), if_neg (by simp [*])]; done)
  ·(try rw [h2]); replace h2 := zcl h2
   refine AWp_skip ?_
   refine AWp_seq ?_
   refine zw3 ?_
   refine AWp_cond rfl (fun h4 => ?_) (fun h4 => ?_)
   ·(try rw [h4]); replace h4 := zcl h4
    refine AWp_regL ?_
    refine zg4 ?_
    refine zt rfl (zc rfl (ritoa_c n.exp _ (by omega) (by omega))) ?_
    refine zv2 ?_
    refine zw2 ?_
    refine zrt ?_
    refine ResQ_1 rfl hcl trivial (Ret_of ?_)
    unfold jshow; first | (rw [if_pos (by assumption)]; done) | (rw [if_neg (by assumption), if_pos (by assumption), if_pos (by assumption)]; done) | (rw [if_neg (by assumption), if_pos (by assumption), if_neg (by simp [*])]; done) | (rw [if_neg (by assumption), if_neg (by assumption), if_pos (by assumption)]; done) | (rw [if_neg (by assumption), if_neg (by assumption), if_neg (by simp [*])]; done)
   ·(try rw [h4]); replace h4 := zcl h4
    refine AWp_skip ?_
    refine zw2 ?_
    refine zrt ?_
    refine ResQ_1 rfl hcl trivial (Ret_of ?_)
    unfold jshow; first | (rw [if_pos (by assumption)]; done) | (rw [if_neg (by assumption), if_pos (by assumption), if_pos (by assumption)]; done) | (rw [if_neg (by assumption), if_pos (by assumption), if_neg (by simp [*])]; done) | (rw [if_neg (by assumption), if_neg (by assumption), if_pos (by assumption)]; done) | (rw [if_neg (by assumption), if_neg (by assumption), if_neg (by simp [*])]; done)
end Lg
set_option maxRecDepth 20000
set_option maxHeartbeats 4000000
namespace Lg
open Go Go.Proofs Go.RowKit
variable [GLay] 
end Lg
set_option maxRecDepth 20000
set_option maxHeartbeats 4000000
namespace Lg
open Go Go.Proofs Go.RowKit
variable [GLay] 
end Lg
set_option maxRecDepth 20000
set_option maxHeartbeats 4000000
namespace Lg
open Go Go.Proofs Go.RowKit
variable [GLay] 
end Lg
namespace Lg
open Go
variable [GLay] {σ : List AO}
theorem bsc1 (c : UInt8) : srcv σ (.sl true 1 [[.int .u8 (c.toNat : Int)]]) = some (bcells ⟨#[c]⟩, 1) := rfl
theorem bsc2 (c d : UInt8) : srcv σ (.sl true 1 [[.int .u8 (c.toNat : Int)], [.int .u8 (d.toNat : Int)]]) = some (bcells ⟨#[c, d]⟩, 2) := rfl
theorem bq1 (x : BL) (c : UInt8) : ba x ++ (⟨#[92]⟩ : ByteArray) ++ (⟨#[c]⟩ : ByteArray) = ba (x ++ [92, c]) := by
  rw [show (⟨#[92]⟩ : ByteArray) = ba [92] from rfl, show (⟨#[c]⟩ : ByteArray) = ba [c] from rfl, ba_app, ba_app]; simp
theorem bq2 (x : BL) (c d : UInt8) : ba x ++ (⟨#[92, 117, 48, 48]⟩ : ByteArray) ++ (⟨#[c, d]⟩ : ByteArray) = ba (x ++ [92, 117, 48, 48, c, d]) := by
  rw [show (⟨#[92, 117, 48, 48]⟩ : ByteArray) = ba [92, 117, 48, 48] from rfl, show (⟨#[c, d]⟩ : ByteArray) = ba [c, d] from rfl, ba_app, ba_app]; simp
theorem bq3 (x : BL) (c : UInt8) : ba x ++ (⟨#[c]⟩ : ByteArray) = ba (x ++ [c]) := by
  rw [show (⟨#[c]⟩ : ByteArray) = ba [c] from rfl, ba_app]
end Lg
set_option maxRecDepth 20000
set_option maxHeartbeats 4000000
namespace Lg
open Go Go.Proofs Go.RowKit
variable [GLay] 
theorem rquote_c (l : BL) (σ : List AO) (hl : l.length ≤ 1000000) : ACalls Tryz.prog 50 [.str (ba l)] σ (Ret (.str (ba (quoteL l))) σ) := by
 refine ACalls_body Tryz.func50 rfl Tryz.ntmps50 (res1 Tryz.results50) (Nat.le_of_ble_eq_true rfl) (fun hcl hal => ?_)
 have hbs : (ba l).size = l.length := ba_size l
 have h1s : ∀ x, (ByteArray.mk #[x]).size = 1 := fun x => rfl
 have h2s : ∀ x y, (ByteArray.mk #[x, y]).size = 2 := fun x y => rfl
 have h4s : (ByteArray.mk #[92, 117, 48, 48]).size = 4 := rfl
 have h92 := h1s 92
 have h34 := h1s 34
 refine zw1 ?_
 refine zw1 ?_
 refine AWp_seq ?_
 refine zw1 ?_
 refine AWp_block ?_
 -- loop 0 LIVE 0:param 2:assign 3:assign 4:assign
 refine AWp_loop (ι := Nat) (fun i => i ≤ l.length) (fun i => ⟨[], [(0, .str (ba l)), (3, .str (ba (34 :: qbody (l.take i)))), (4, .int .i64 (i : Int))]⟩) (fun i => σ) (fun i => l.length - i) (0) (Nat.zero_le _) ?_ rfl (fun i hi => ?_)
 ·exact ⟨rfl, rfl, rfl, rfl, trivial⟩
 have hqt := qbody_len (l.take i)
 rw [List.length_take] at hqt
 have hbq : (ba (34 :: qbody (l.take i))).size = (qbody (l.take i)).length + 1 := by rw [ba_size]; rfl
 refine AWp_seq ?_
 refine zw4 ?_
 refine AWp_cond rfl (fun h1 => ?_) (fun h1 => ?_)
 ·(try rw [h1]); replace h1 := zcl h1
  refine AWp_skip ?_
  refine AWp_seq ?_
  refine AWp_block ?_
  refine zu3 ?_
  simp only [Int.toNat_natCast]
  rw [show bat (ba l) i = l.getD i 0 from bat_ba l i]
  have hc := qbody_take (l := l) (i := i) (by omega)
  generalize l.getD i 0 = c at hc ⊢
  refine zv1 ?_
  refine zu3 ?_
  refine zsp 18 rfl (fun h2 => ?_) fun h2 => ?_
  ·rw [h2]; replace h2 := zcl h2
   refine zv3 ?_
   refine AWp_condT rfl ?_
   refine AWp_regL ?_
   refine zg2 ?_
   have h1c := h1s c
   have hsa := ByteArray.size_append (a := ba (34 :: qbody (l.take i))) (b := (⟨#[92]⟩ : ByteArray))
   refine zg1 ?_
   refine zt rfl (op_buildSlice [[_]] rfl Tryz.underlying102 Tryz.sizeOf5 Tryz.zeroValue5 rfl (by decide) (by decide) rfl rfl rfl rfl rfl) ?_
   refine zt rfl (op_bytesStr (b := _) (m := 1) rfl Tryz.underlying102 Tryz.underlying5 Tryz.underlying9 (bsc1 c) rfl rfl) ?_
   refine zv2 ?_
   refine AWp_regL ?_
   refine zv3 ?_
   refine ⟨i + 1, σ.length, by omega, by omega, Nat.le_refl _, ⟨rfl, rfl, ?_, rfl, trivial⟩, hcl, ?_, List.take_length⟩
   ·rw [hc]; refine congrArg AV.str (?_ : _ = _); first | (rw [qch1 (by omega)]; exact bq1 _ _) | (rw [qch2 (by omega) (by omega)]; exact bq2 _ _ _) | (rw [qch3 (by omega) (by omega)]; exact bq3 _ _)
   ·simp [ltE, AV.lt]
  ·rw [h2]; replace h2 := zcl h2
   refine zv3 ?_
   refine AWp_cond rfl (fun h3 => ?_) (fun h3 => ?_)
   ·(try rw [h3]); replace h3 := zcl h3
    refine AWp_regL ?_
    refine zg2 ?_
    have h1c := h1s c
    have hsa := ByteArray.size_append (a := ba (34 :: qbody (l.take i))) (b := (⟨#[92]⟩ : ByteArray))
    refine zg1 ?_
    refine zt rfl (op_buildSlice [[_]] rfl Tryz.underlying102 Tryz.sizeOf5 Tryz.zeroValue5 rfl (by decide) (by decide) rfl rfl rfl rfl rfl) ?_
    refine zt rfl (op_bytesStr (b := _) (m := 1) rfl Tryz.underlying102 Tryz.underlying5 Tryz.underlying9 (bsc1 c) rfl rfl) ?_
    refine zv2 ?_
    refine AWp_regL ?_
    refine zv3 ?_
    refine ⟨i + 1, σ.length, by omega, by omega, Nat.le_refl _, ⟨rfl, rfl, ?_, rfl, trivial⟩, hcl, ?_, List.take_length⟩
    ·rw [hc]; refine congrArg AV.str (?_ : _ = _); first | (rw [qch1 (by omega)]; exact bq1 _ _) | (rw [qch2 (by omega) (by omega)]; exact bq2 _ _ _) | (rw [qch3 (by omega) (by omega)]; exact bq3 _ _)
    ·simp [ltE, AV.lt]
   ·(try rw [h3]); replace h3 := zcl h3
    refine zw2 ?_
    refine AWp_cond rfl (fun h4 => ?_) (fun h4 => ?_)
    ·(try rw [h4]); replace h4 := zcl h4
     refine zw1 ?_
     refine AWp_drawL #[0, 1, 0, 0, 8, 24, 60, 0, 0, 256, 768, 1920, 4092, 8188, 16383, 32767] Tryz.mixed (by decide +kernel) (by decide +kernel) ?_
     refine zd2 ?_
     have hsa := ByteArray.size_append (a := ba (34 :: qbody (l.take i))) (b := (⟨#[92, 117, 48, 48]⟩ : ByteArray))
     have h2c := h2s (hxd (c.toNat / 16)) (hxd (c.toNat % 16))
     refine zd3 ?_
     refine yA rfl rfl (fun _ => op_quo64 rfl rfl rfl (by omega) (by omega) (by omega)) ?_
     refine yA rfl rfl (fun _ => op_index_strB rfl Tryz.underlying9 rfl rfl (by omega) (by rw [show (ByteArray.mk #[48, 49, 50, 51, 52, 53, 54, 55, 56, 57, 97, 98, 99, 100, 101, 102]).size = 16 from rfl]; have := c.toNat_lt; omega)) ?_
     rw [show ((c.toNat : Int) / 16).toNat = c.toNat / 16 by omega]
     refine zd3 ?_
     refine yA rfl rfl (fun _ => op_rem64 rfl rfl rfl (by omega) (by omega)) ?_
     refine yA rfl rfl (fun _ => op_index_strB rfl Tryz.underlying9 rfl rfl (by omega) (by rw [show (ByteArray.mk #[48, 49, 50, 51, 52, 53, 54, 55, 56, 57, 97, 98, 99, 100, 101, 102]).size = 16 from rfl]; have := c.toNat_lt; omega)) ?_
     rw [show ((c.toNat : Int) % 16).toNat = c.toNat % 16 by omega]
     refine yA rfl rfl (fun _ => op_buildSlice [[_], [_]] rfl Tryz.underlying102 Tryz.sizeOf5 Tryz.zeroValue5 rfl (by decide) (by decide) rfl rfl rfl rfl rfl) ?_
     refine yA rfl rfl (fun _ => op_bytesStr (b := _) (m := 2) rfl Tryz.underlying102 Tryz.underlying5 Tryz.underlying9 (bsc2 (hxd (c.toNat / 16)) (hxd (c.toNat % 16))) rfl rfl) ?_
     refine zd2 ?_
     refine RP.nil rfl ?_
     refine AWp_regL ?_
     refine zv3 ?_
     refine ⟨i + 1, σ.length, by omega, by omega, Nat.le_refl _, ⟨rfl, rfl, ?_, rfl, trivial⟩, hcl, ?_, List.take_length⟩
     ·rw [hc]; refine congrArg AV.str (?_ : _ = _); first | (rw [qch1 (by omega)]; exact bq1 _ _) | (rw [qch2 (by omega) (by omega)]; exact bq2 _ _ _) | (rw [qch3 (by omega) (by omega)]; exact bq3 _ _)
     ·simp [ltE, AV.lt]
    ·(try rw [h4]); replace h4 := zcl h4
     refine AWp_regL ?_
     refine zg2 ?_
     have h1c := h1s c
     refine zt rfl (op_buildSlice [[_]] rfl Tryz.underlying102 Tryz.sizeOf5 Tryz.zeroValue5 rfl (by decide) (by decide) rfl rfl rfl rfl rfl) ?_
     refine zt rfl (op_bytesStr (b := _) (m := 1) rfl Tryz.underlying102 Tryz.underlying5 Tryz.underlying9 (bsc1 c) rfl rfl) ?_
     refine zv2 ?_
     refine AWp_regL ?_
     refine zv3 ?_
     refine ⟨i + 1, σ.length, by omega, by omega, Nat.le_refl _, ⟨rfl, rfl, ?_, rfl, trivial⟩, hcl, ?_, List.take_length⟩
     ·rw [hc]; refine congrArg AV.str (?_ : _ = _); first | (rw [qch1 (by omega)]; exact bq1 _ _) | (rw [qch2 (by omega) (by omega)]; exact bq2 _ _ _) | (rw [qch3 (by omega) (by omega)]; exact bq3 _ _)
     ·simp [ltE, AV.lt]
 ·(try rw [h1]); replace h1 := zcl h1
  refine AWp_exit ?_
  refine zw3 ?_
  refine zrt ?_
  refine ResQ_10 rfl hcl trivial (Ret_of ?_)
  rw [show i = l.length by omega, List.take_length]; exact congrArg AV.str (bq3 _ 34)
end Lg
set_option maxRecDepth 20000
set_option maxHeartbeats 4000000
namespace Lg
open Go Go.Proofs Go.RowKit
variable [GLay] 
theorem rquoteT_c (s : ByteArray) (σ : List AO) (hs : s.size ≤ 1000000) : ACalls Tryz.prog 50 [.str s] σ (Ret (.str (ba (quoteL s.data.toList))) σ) := by
  have h := rquote_c s.data.toList σ hs
  rwa [← ba_eta] at h
end Lg
set_option maxRecDepth 20000
set_option maxHeartbeats 4000000
namespace Lg
open Go Go.Proofs Go.RowKit
variable [GLay] 
theorem rsh_any (n : Nat) : ∀ (v : JV) (σ : List AO), jsize v ≤ n → jb v → jkb v → 20000000 * jsize v ≤ 100000000000000 → ACalls Tryz.prog 19 [.agg (vcells v)] σ (Ret (.str (ba (jtx v))) σ) := by
 induction n with
 | zero => intro v σ h; have := jsize_pos v; omega
 | succ n ih =>
 intro v σ hn hjb hkb hlen
 have hvs := jsize_eq v
 have hv1 := jsize_pos v
 have hl0 := lsize_nn v.l
 have hm0 := msize_nn v.m
 obtain ⟨hb1, hb2, hb3, hb4, hb5, hb6⟩ := (jb_eq v).1 hjb
 obtain ⟨hk1, hk2, hk3, hk4, hk5⟩ := (jkb_eq v).1 hkb
 refine ACalls_body Tryz.func19 rfl Tryz.ntmps19 (res1 Tryz.results19) (Nat.le_of_ble_eq_true rfl) (fun hcl hal => ?_)
 rw [vcells_eq v]
 refine zw2 ?_
 refine zw1 ?_
 refine AWp_seq ?_
 refine zw2 ?_
 refine AWp_block ?_
 refine zw2 ?_
 refine AWp_cond rfl (fun h1 => ?_) (fun h1 => ?_)
 ·(try rw [h1]); replace h1 := zcl h1
  refine zw1 ?_
  refine zrt ?_
  have hE : jtx v = nullL := by rw [jtx_eq, if_neg (by omega), if_neg (by omega), if_neg (by omega), if_neg (by omega), if_neg (by omega)]
  rw [hE]
  exact ResQ_1 rfl hcl trivial ⟨rfl, rfl⟩
 ·(try rw [h1]); replace h1 := zcl h1
  refine zw2 ?_
  refine AWp_cond rfl (fun h2 => ?_) (fun h2 => ?_)
  ·(try rw [h2]); replace h2 := zcl h2
   refine AWp_seq ?_
   refine zw2 ?_
   refine AWp_cond rfl (fun h3 => ?_) (fun h3 => ?_)
   ·(try rw [h3]); replace h3 := zcl h3
    refine zw1 ?_
    refine zrt ?_
    have hE : jtx v = trueL := by rw [jtx_eq, if_pos (by omega), if_pos (by assumption)]
    rw [hE]
    exact ResQ_1 rfl hcl trivial ⟨rfl, rfl⟩
   ·(try rw [h3]); replace h3 := zcl h3
    refine AWp_skip ?_
    refine zw1 ?_
    refine zrt ?_
    have hE : jtx v = falseL := by rw [jtx_eq, if_pos (by omega), if_neg (by simp [*])]
    rw [hE]
    exact ResQ_1 rfl hcl trivial ⟨rfl, rfl⟩
  ·(try rw [h2]); replace h2 := zcl h2
   refine zw2 ?_
   refine AWp_cond rfl (fun h4 => ?_) (fun h4 => ?_)
   ·(try rw [h4]); replace h4 := zcl h4
    refine zu2 ?_
    refine zt rfl (zc rfl (rshow_c v.n _ ⟨by omega, hk3.1, hk3.2⟩)) ?_
    refine zv1 ?_
    refine zrt ?_
    have hE : jtx v = (jshow v.n).data.toList := by rw [jtx_eq, if_neg (by omega), if_pos (by omega)]
    rw [hE, ← ba_eta]
    exact ResQ_1 rfl hcl trivial ⟨rfl, rfl⟩
   ·(try rw [h4]); replace h4 := zcl h4
    refine zw2 ?_
    refine AWp_cond rfl (fun h5 => ?_) (fun h5 => ?_)
    ·(try rw [h5]); replace h5 := zcl h5
     refine zu2 ?_
     refine zt rfl (zc rfl (rquoteT_c v.s _ (by omega))) ?_
     refine zv1 ?_
     refine zrt ?_
     have hE : jtx v = quoteL v.s.data.toList := by rw [jtx_eq, if_neg (by omega), if_neg (by omega), if_pos (by omega)]
     rw [hE]
     exact ResQ_1 rfl hcl trivial ⟨rfl, rfl⟩
    ·(try rw [h5]); replace h5 := zcl h5
     refine zw2 ?_
     refine AWp_cond rfl (fun h6 => ?_) (fun h6 => ?_)
     ·(try rw [h6]); replace h6 := zcl h6
      refine AWp_seq ?_
      refine zw1 ?_
      refine AWp_block ?_
      -- loop 0 LIVE 1:box 2:assign 3:assign 4:assign
      refine AWp_loop (ι := Nat) (fun i => i ≤ v.l.length) (fun i => ⟨[], [(1, .ptr (σ.length + 0) 0), (3, .str (ba (ljw 44 (v.l.take i)).tail)), (4, .int .i64 (i : Int))]⟩) (fun i => σ ++ [_]) (fun i => v.l.length - i) (0) (Nat.zero_le _) ?_ rfl (fun i hi => ?_)
      ·exact ⟨rfl, rfl, rfl, rfl, trivial⟩
      have hll := lcells_length v.l
      have hle := ljw_le (l := v.l) 44 hb5 hk4 i
      have htl : (ba (ljw 44 (v.l.take i)).tail).size ≤ (ljw 44 (v.l.take i)).length := by rw [ba_size, List.length_tail]; omega
      have z44 : (ByteArray.mk #[44]).size = 1 := rfl
      have z45 := ByteArray.size_append (a := ba (ljw 44 (v.l.take i)).tail) (b := ⟨#[44]⟩)
      refine AWp_seq ?_
      refine zw5 ?_
      refine AWp_cond rfl (fun h7 => ?_) (fun h7 => ?_)
      ·(try rw [h7]); replace h7 := zcl h7
       obtain ⟨x, hx⟩ : ∃ x, v.l[i]? = some x := ⟨_, List.getElem?_eq_getElem (show i < v.l.length by omega)⟩
       have hxs := lsize_mem hx
       have hjx := jtx_len x (lb_get hb5 hx) (lkb_get hk4 hx)
       refine AWp_skip ?_
       refine AWp_seq ?_
       refine AWp_block ?_
       refine AWp_seq ?_
       refine zw2 ?_
       refine AWp_cond rfl (fun h8 => ?_) (fun h8 => ?_)
       ·(try rw [h8]); replace h8 := zcl h8
        refine AWp_regL ?_
        refine zv3 ?_
        refine AWp_regL ?_
        refine zg5 ?_
        rw [vcells_eq x]
        refine zg1 ?_
        refine zt rfl (zc rfl (vcells_eq x ▸ ih x _ (by omega) (lb_get hb5 hx) (lkb_get hk4 hx) (by omega))) ?_
        have z1 : (ba (jtx x)).size = (jtx x).length := ba_size _
        refine zv2 ?_
        refine AWp_regL ?_
        refine zv3 ?_
        refine ⟨i + 1, σ.length + 1, by omega, by omega, by simp, ⟨rfl, rfl, ?_, rfl, trivial⟩, closed_own 1 hcl ?_, ?_, take_own 1⟩
        ·rw [ljw_tail hx]; refine congrArg AV.str (?_ : _ = _); first | (rw [if_neg (by omega), show (⟨#[44]⟩ : ByteArray) = ba [44] from rfl]; rw [ba_app, ba_app]) | (rw [if_pos (by omega), show i = 0 by omega]; show ba _ ++ ba _ = _; rw [ba_app]; rfl)
        ·simp [ownLt, AO.cells, AV.ltL, AV.lt]
        ·simp [ltE, AV.lt]
       ·(try rw [h8]); replace h8 := zcl h8
        refine AWp_skip ?_
        refine AWp_regL ?_
        refine zg5 ?_
        rw [vcells_eq x]
        refine zg1 ?_
        refine zt rfl (zc rfl (vcells_eq x ▸ ih x _ (by omega) (lb_get hb5 hx) (lkb_get hk4 hx) (by omega))) ?_
        have z1 : (ba (jtx x)).size = (jtx x).length := ba_size _
        refine zv2 ?_
        refine AWp_regL ?_
        refine zv3 ?_
        refine ⟨i + 1, σ.length + 1, by omega, by omega, by simp, ⟨rfl, rfl, ?_, rfl, trivial⟩, closed_own 1 hcl ?_, ?_, take_own 1⟩
        ·rw [ljw_tail hx]; refine congrArg AV.str (?_ : _ = _); first | (rw [if_neg (by omega), show (⟨#[44]⟩ : ByteArray) = ba [44] from rfl]; rw [ba_app, ba_app]) | (rw [if_pos (by omega), show i = 0 by omega]; show ba _ ++ ba _ = _; rw [ba_app]; rfl)
        ·simp [ownLt, AO.cells, AV.ltL, AV.lt]
        ·simp [ltE, AV.lt]
      ·(try rw [h7]); replace h7 := zcl h7
       refine AWp_exit ?_
       refine zsr ?_
       have z91 : (ByteArray.mk #[91]).size = 1 := rfl
       have z93 : (ByteArray.mk #[93]).size = 1 := rfl
       have z92 := ByteArray.size_append (a := (⟨#[91]⟩ : ByteArray)) (b := ba (ljw 44 (v.l.take i)).tail)
       refine zv4 ?_
       refine zrt ?_
       rw [jtx_4 (by omega), show i = v.l.length by omega, List.take_length]
       refine ResQ_1 rfl hcl trivial ⟨?_, rfl⟩
       rw [show (⟨#[91]⟩ : ByteArray) = ba [91] from rfl, show (⟨#[93]⟩ : ByteArray) = ba [93] from rfl, ba_app, ba_app]; simp
     ·(try rw [h6]); replace h6 := zcl h6
      refine AWp_skip ?_
      refine AWp_seq ?_
      refine zw1 ?_
      refine AWp_block ?_
      -- loop 1 LIVE 1:box 2:assign 3:assign 5:assign
      refine AWp_loop (ι := Nat) (fun i => i ≤ v.m.length) (fun i => ⟨[], [(1, .ptr (σ.length + 0) 0), (3, .str (ba (mjw 44 (v.m.take i)).tail)), (5, .int .i64 (i : Int))]⟩) (fun i => σ ++ [_]) (fun i => v.m.length - i) (0) (Nat.zero_le _) ?_ rfl (fun i hi => ?_)
      ·exact ⟨rfl, rfl, rfl, rfl, trivial⟩
      have hll := mcells_length v.m
      have hle := mjw_le (l := v.m) 44 hb6 hk5 i
      have htl : (ba (mjw 44 (v.m.take i)).tail).size ≤ (mjw 44 (v.m.take i)).length := by rw [ba_size, List.length_tail]; omega
      have z44 : (ByteArray.mk #[44]).size = 1 := rfl
      have z45 := ByteArray.size_append (a := ba (mjw 44 (v.m.take i)).tail) (b := ⟨#[44]⟩)
      refine AWp_seq ?_
      refine zw5 ?_
      refine AWp_cond rfl (fun h9 => ?_) (fun h9 => ?_)
      ·(try rw [h9]); replace h9 := zcl h9
       obtain ⟨q, hq⟩ : ∃ q, v.m[i]? = some q := ⟨_, List.getElem?_eq_getElem (show i < v.m.length by omega)⟩
       have hxs := msize_mem hq
       have hqb := mb_get hb6 hq
       have hjx := jtx_len q.2 hqb.2 (mkb_get hk5 hq)
       have z6 : (ba (jtx q.2)).size = (jtx q.2).length := ba_size _
       refine AWp_skip ?_
       refine AWp_seq ?_
       refine AWp_block ?_
       refine AWp_seq ?_
       refine zw2 ?_
       refine AWp_cond rfl (fun h10 => ?_) (fun h10 => ?_)
       ·(try rw [h10]); replace h10 := zcl h10
        refine AWp_regL ?_
        refine zv3 ?_
        refine AWp_drawL #[0, 0, 2, 0, 14, 30, 62, 126, 255, 511, 0, 1024, 0, 7168, 15360, 31744, 64766, 131071, 262143] Tryz.mixed (by decide +kernel) (by decide +kernel) ?_
        refine zd2 ?_
        refine zp1 ?_
        refine zd3 ?_
        refine zp1 ?_
        refine yP rfl rfl (zc rfl (rquoteT_c q.1 _ hqb.1)) (trivial) ?_
        have z2 : (ba (quoteL q.1.data.toList)).size = (quoteL q.1.data.toList).length := ba_size _
        have z3 := quote_size hqb.1
        have z58 : (ByteArray.mk #[58]).size = 1 := rfl
        refine zd3 ?_
        refine zp1 ?_
        refine zd3 ?_
        rw [vcells_eq q.2]
        refine zp1 ?_
        refine yP rfl rfl (zc rfl (vcells_eq q.2 ▸ ih q.2 _ (by omega) hqb.2 (mkb_get hk5 hq) (by omega))) (trivial) ?_
        refine zd2 ?_
        refine RP.nil rfl ?_
        refine AWp_regL ?_
        refine zv3 ?_
        refine ⟨i + 1, σ.length + 1, by omega, by omega, by simp, ⟨rfl, rfl, ?_, rfl, trivial⟩, closed_own 1 hcl ?_, ?_, take_own 1⟩
        ·rw [mjw_tail hq]; refine congrArg AV.str (?_ : _ = _); first | (rw [if_neg (by omega), show (⟨#[44]⟩ : ByteArray) = ba [44] from rfl]; rw [show (⟨#[58]⟩ : ByteArray) = ba [58] from rfl, ba_app, ba_app, ba_app, ba_app]; simp) | (rw [if_pos (by omega), show i = 0 by omega]; rw [show (⟨#[58]⟩ : ByteArray) = ba [58] from rfl, ba_app, ba_app, ba_app]; simp [mjw])
        ·simp [ownLt, AO.cells, AV.ltL, AV.lt]
        ·simp [ltE, AV.lt]
       ·(try rw [h10]); replace h10 := zcl h10
        refine AWp_skip ?_
        refine AWp_drawL #[0, 0, 2, 0, 14, 30, 62, 126, 255, 511, 0, 1024, 0, 7168, 15360, 31744, 64766, 131071, 262143] Tryz.mixed (by decide +kernel) (by decide +kernel) ?_
        refine zd2 ?_
        refine zp1 ?_
        refine zd3 ?_
        refine zp1 ?_
        refine yP rfl rfl (zc rfl (rquoteT_c q.1 _ hqb.1)) (trivial) ?_
        have z2 : (ba (quoteL q.1.data.toList)).size = (quoteL q.1.data.toList).length := ba_size _
        have z3 := quote_size hqb.1
        have z58 : (ByteArray.mk #[58]).size = 1 := rfl
        refine zd3 ?_
        refine zp1 ?_
        refine zd3 ?_
        rw [vcells_eq q.2]
        refine zp1 ?_
        refine yP rfl rfl (zc rfl (vcells_eq q.2 ▸ ih q.2 _ (by omega) hqb.2 (mkb_get hk5 hq) (by omega))) (trivial) ?_
        refine zd2 ?_
        refine RP.nil rfl ?_
        refine AWp_regL ?_
        refine zv3 ?_
        refine ⟨i + 1, σ.length + 1, by omega, by omega, by simp, ⟨rfl, rfl, ?_, rfl, trivial⟩, closed_own 1 hcl ?_, ?_, take_own 1⟩
        ·rw [mjw_tail hq]; refine congrArg AV.str (?_ : _ = _); first | (rw [if_neg (by omega), show (⟨#[44]⟩ : ByteArray) = ba [44] from rfl]; rw [show (⟨#[58]⟩ : ByteArray) = ba [58] from rfl, ba_app, ba_app, ba_app, ba_app]; simp) | (rw [if_pos (by omega), show i = 0 by omega]; rw [show (⟨#[58]⟩ : ByteArray) = ba [58] from rfl, ba_app, ba_app, ba_app]; simp [mjw])
        ·simp [ownLt, AO.cells, AV.ltL, AV.lt]
        ·simp [ltE, AV.lt]
      ·(try rw [h9]); replace h9 := zcl h9
       refine AWp_exit ?_
       refine zsr ?_
       have z91 : (ByteArray.mk #[123]).size = 1 := rfl
       have z93 : (ByteArray.mk #[125]).size = 1 := rfl
       have z92 := ByteArray.size_append (a := (⟨#[123]⟩ : ByteArray)) (b := ba (mjw 44 (v.m.take i)).tail)
       refine zv4 ?_
       refine zrt ?_
       rw [jtx_5 (by omega), show i = v.m.length by omega, List.take_length]
       refine ResQ_1 rfl hcl trivial ⟨?_, rfl⟩
       rw [show (⟨#[123]⟩ : ByteArray) = ba [123] from rfl, show (⟨#[125]⟩ : ByteArray) = ba [125] from rfl, ba_app, ba_app]; simp
end Lg
namespace Lg
open Go Go.RowKit
variable [GLay]
/-! ### A drawn region with one allocation that isn't ordered with the other effects -/
def PastG (P : Program) (tb : Array Nat) (i : Nat) (e : Env) (o : Oper) (v : AV) : List (Nat × (Bool → List AO)) → Prop
  | [] => True
  | (j, σ) :: r => (befB tb j i = true ∨ ∀ b, AOp P (σ b) e o v (σ b)) ∧ PastG P tb i e o v r
def HeldG (tb : Array Nat) (i : Nat) (σ : Bool → List AO) : List (Nat × (List AO → Prop)) → Prop
  | [] => True
  | (k, p) :: r => (befB tb k i = true ∨ ∀ b, p (σ b)) ∧ HeldG tb i σ r
def ChainG (tb : Array Nat) (i : Nat) : List (Nat × (Bool → List AO)) → Prop
  | [] => True
  | (j, _) :: r => befB tb j i = true ∧ ChainG tb i r
/-- What comes behind all else, in its order. -/
inductive RT (P : Program) (N : Nat) (ops : Array Oper) (tb : Array Nat) (Q : Env → List AO → Prop) : Nat → Env → List AO → Prop
  | nil {i e σ} (hi : i = ops.size) (h : Q e σ) : RT P N ops tb Q i e σ
  | op {i e σ} (o : Oper) (v : AV) (σ' : List AO) (ho : ops[i]? = some o) (hg : GuardA ops N e o true) (hd : ∀ d, o.dst = some d → d < N) (h : AOp P σ e o v σ') (hall : ((List.range i).all fun j => befB tb j i) = true)
      (k : RT P N ops tb Q (i + 1) (e.put o.dst v) σ') : RT P N ops tb Q i e σ
/-- The two heaps: without the new object, and with it, behind. -/
def Twin (B : AO) (L : Nat) (σ : Bool → List AO) : Prop := (σ false).length = L ∧ σ true = σ false ++ [B]
inductive RG (P : Program) (N : Nat) (ops : Array Oper) (tb : Array Nat) (B : AO) (L : Nat) (Q : Env → List AO → Prop) : Nat → Env → (Bool → List AO) → List (Nat × (Bool → List AO)) → List (Nat × (List AO → Prop)) → Prop
  | pure {i e σ past held} (o : Oper) (v : AV) (ho : ops[i]? = some o) (hg : GuardA ops N e o true) (hd : ∀ d, o.dst = some d → d < N) (h : ∀ b, AOp P (σ b) e o v (σ b)) (hp : PastG P tb i e o v past)
      (k : RG P N ops tb B L Q (i + 1) (e.put o.dst v) σ past ((i, fun σ' => AOp P σ' e o v σ') :: held)) : RG P N ops tb B L Q i e σ past held
  | eff {i e σ past held} (o : Oper) (v : AV) (σ' : Bool → List AO) (ho : ops[i]? = some o) (hg : GuardA ops N e o true) (hd : ∀ d, o.dst = some d → d < N) (h : ∀ b, AOp P (σ b) e o v (σ' b)) (ht : Twin B L σ') (hh : HeldG tb i σ' held) (hc : ChainG tb i past)
      (k : RG P N ops tb B L Q (i + 1) (e.put o.dst v) σ' ((i, σ) :: past) held) : RG P N ops tb B L Q i e σ past held
  | flt {i e σ past held} (o : Oper) (ho : ops[i]? = some o) (hg : GuardA ops N e o true) (hd : ∀ d, o.dst = some d → d < N) (h : ∀ τ : List AO, τ.length = L → AOp P τ e o (.ptr L 0) (τ ++ [B]))
      (k : RT P N ops tb Q (i + 1) (e.put o.dst (.ptr L 0)) (σ true)) : RG P N ops tb B L Q i e σ past held
structure TrG (P : Program) (N : Nat) (ops : Array Oper) (tb : Array Nat) (B : AO) (L : Nat) (Q : Env → List AO → Prop) (i0 f : Nat) (E : Nat → Env) (H : Bool → Nat → List AO) (val : Nat → AV) (kd : Nat → Kd) : Prop where
  le : i0 ≤ f
  fl : f < ops.size
  twin : ∀ i, i0 ≤ i → i ≤ f → Twin B L fun b => H b i
  pre : ∀ i, i0 ≤ i → i < f → ∃ o, ops[i]? = some o ∧ (∀ d, o.dst = some d → d < N) ∧ E (i + 1) = (E i).put o.dst (val i) ∧ GuardA ops N (E i) o true ∧
    ((kd i = .pure ∧ (∀ b, AOp P (H b i) (E i) o (val i) (H b i) ∧ H b (i + 1) = H b i) ∧
      (∀ j, i0 ≤ j → j < i → kd j = .eff → befB tb j i = true ∨ ∀ b, AOp P (H b j) (E i) o (val i) (H b j)) ∧
      (∀ j, i < j → j < f → kd j = .eff → befB tb i j = true ∨ ∀ b, AOp P (H b (j + 1)) (E i) o (val i) (H b (j + 1)))) ∨
    (kd i = .eff ∧ (∀ b, AOp P (H b i) (E i) o (val i) (H b (i + 1))) ∧ (∀ j, i0 ≤ j → j < i → kd j = .eff → befB tb j i = true)))
  flt : ∃ o, ops[f]? = some o ∧ (∀ d, o.dst = some d → d < N) ∧ E (f + 1) = (E f).put o.dst (val f) ∧ GuardA ops N (E f) o true ∧ kd f = .skip ∧ (∀ b, H b (f + 1) = H b f) ∧
    ∀ τ : List AO, τ.length = L → AOp P τ (E f) o (val f) (τ ++ [B])
  tail : ∀ i, f < i → i < ops.size → ∃ o, ops[i]? = some o ∧ (∀ d, o.dst = some d → d < N) ∧ E (i + 1) = (E i).put o.dst (val i) ∧ GuardA ops N (E i) o true ∧ kd i = .eff ∧
    AOp P (H true i) (E i) o (val i) (H true (i + 1)) ∧ ∀ j, j < i → befB tb j i = true
  fin : Q (E ops.size) (H true ops.size)
section rp
variable {P : Program} {N : Nat} {ops : Array Oper} {tb : Array Nat} {Q : Env → List AO → Prop} {B : AO} {L : Nat}
theorem PastG.mem {i : Nat} {e : Env} {o : Oper} {v : AV} : ∀ {past : List (Nat × (Bool → List AO))}, PastG P tb i e o v past → ∀ q ∈ past, befB tb q.1 i = true ∨ ∀ b, AOp P (q.2 b) e o v (q.2 b)
  | [], _, q, h => by simp at h
  | (j, σ) :: r, ⟨h1, h2⟩, q, h => by
    rcases List.mem_cons.1 h with rfl | h
    · exact h1
    · exact PastG.mem h2 q h
theorem HeldG.mem {i : Nat} {σ : Bool → List AO} : ∀ {held : List (Nat × (List AO → Prop))}, HeldG tb i σ held → ∀ q ∈ held, befB tb q.1 i = true ∨ ∀ b, q.2 (σ b)
  | [], _, q, h => by simp at h
  | (j, p) :: r, ⟨h1, h2⟩, q, h => by
    rcases List.mem_cons.1 h with rfl | h
    · exact h1
    · exact HeldG.mem h2 q h
theorem ChainG.mem {i : Nat} : ∀ {past : List (Nat × (Bool → List AO))}, ChainG tb i past → ∀ q ∈ past, befB tb q.1 i = true
  | [], _, q, h => by simp at h
  | (j, σ) :: r, ⟨h1, h2⟩, q, h => by
    rcases List.mem_cons.1 h with rfl | h
    · exact h1
    · exact ChainG.mem h2 q h
theorem RT.trace {i : Nat} {e : Env} {σ : List AO} (h : RT P N ops tb Q i e σ) (hi : i ≤ ops.size) :
    ∃ (E : Nat → Env) (H : Nat → List AO) (val : Nat → AV), E i = e ∧ H i = σ ∧ (∀ j, i ≤ j → j < ops.size → ∃ o, ops[j]? = some o ∧ (∀ d, o.dst = some d → d < N) ∧ E (j + 1) = (E j).put o.dst (val j) ∧ GuardA ops N (E j) o true ∧
      AOp P (H j) (E j) o (val j) (H (j + 1)) ∧ ∀ k, k < j → befB tb k j = true) ∧ Q (E ops.size) (H ops.size) := by
  induction h with
  | nil hi' h =>
    rename_i i e σ
    exact ⟨fun _ => e, fun _ => σ, fun _ => .any, rfl, rfl, fun j h1 h2 => by omega, h⟩
  | op o v σ' ho hg hd h hall k ih =>
    rename_i i e σ
    have hlt : i < ops.size := (Array.getElem?_eq_some_iff.1 ho).1
    obtain ⟨E, H, val, hE, hH, hs, hQ⟩ := ih (by omega)
    refine ⟨fun j => if j = i then e else E j, fun j => if j = i then σ else H j, fun j => if j = i then v else val j, if_pos rfl, if_pos rfl, fun j h1 h2 => ?_, ?_⟩
    · by_cases hji : j = i
      · subst hji
        refine ⟨o, ho, hd, ?_, by simpa using hg, ?_, fun k hk => List.all_eq_true.1 hall k (List.mem_range.2 hk)⟩
        · simp [hE]
        · simp only [if_true, if_neg (show j + 1 ≠ j by omega), hH]; exact h
      · simp only [if_neg hji, if_neg (show j + 1 ≠ i by omega)]; exact hs j (by omega) h2
    · simp only [if_neg (show ops.size ≠ i by omega)]; exact hQ
theorem RG.trace {i : Nat} {e : Env} {σ : Bool → List AO} {past : List (Nat × (Bool → List AO))} {held : List (Nat × (List AO → Prop))} (h : RG P N ops tb B L Q i e σ past held) (htw : Twin B L σ) :
    ∃ f E H val kd, E i = e ∧ (∀ b, H b i = σ b) ∧ TrG P N ops tb B L Q i f E H val kd ∧
      (∀ j, i ≤ j → j < f → kd j = .pure → ∀ q ∈ past, ∃ o, ops[j]? = some o ∧ (befB tb q.1 j = true ∨ ∀ b, AOp P (q.2 b) (E j) o (val j) (q.2 b))) ∧
      (∀ j, i ≤ j → j < f → kd j = .eff → (∀ q ∈ held, befB tb q.1 j = true ∨ ∀ b, q.2 (H b (j + 1))) ∧ ∀ q ∈ past, befB tb q.1 j = true) := by
  induction h with
  | flt o ho hg hd h k =>
    rename_i i e σ past held
    have hlt : i < ops.size := (Array.getElem?_eq_some_iff.1 ho).1
    obtain ⟨E, H, val, hE, hH, hs, hQ⟩ := k.trace (by omega)
    refine ⟨i, fun j => if j = i then e else E j, fun b j => if j ≤ i + 1 then σ b else H j, fun j => if j = i then .ptr L 0 else val j, fun j => if j = i then .skip else .eff, if_pos rfl, fun b => if_pos (by omega), ⟨Nat.le_refl _, hlt, fun j h1 h2 => ?_, fun j h1 h2 => by omega, ⟨o, ho, hd, ?_, by simpa using hg, if_pos rfl, fun b => ?_, fun τ hτ => ?_⟩, fun j h1 h2 => ?_, ?_⟩, fun j h1 h2 => by omega, fun j h1 h2 => by omega⟩
    · simp only [if_pos (show j ≤ i + 1 by omega)]; exact htw
    · simp [hE]
    · simp
    · simp only [if_true]; exact h τ hτ
    · obtain ⟨o', a1, a2, a3, a4, a5, a6⟩ := hs j (by omega) h2
      refine ⟨o', a1, a2, ?_, ?_, ?_, ?_, a6⟩
      · simp only [if_neg (show j ≠ i by omega), if_neg (show j + 1 ≠ i by omega)]; exact a3
      · simp only [if_neg (show j ≠ i by omega)]; exact a4
      · simp only [if_neg (show j ≠ i by omega)]
      · simp only [if_neg (show j ≠ i by omega), if_neg (show ¬ j + 1 ≤ i + 1 by omega)]
        by_cases hj : j ≤ i + 1
        · have : j = i + 1 := by omega
          subst this
          simp only [Nat.le_refl, if_true]; rw [← hH]; exact a5
        · simp only [if_neg hj]; exact a5
    · simp only [if_neg (show ops.size ≠ i by omega)]
      by_cases hj : ops.size ≤ i + 1
      · simp only [if_pos hj]; have : ops.size = i + 1 := by omega
        rw [this] at hQ ⊢; rw [← hH]; exact hQ
      · simp only [if_neg hj]; exact hQ
  | pure o v ho hg hd h hp k ih =>
    rename_i i e σ past held
    obtain ⟨f, E, H, val, kd, hE, hH, ht, h1, h2⟩ := ih htw
    have hif := ht.le
    refine ⟨f, fun j => if j = i then e else E j, fun b j => if j = i then σ b else H b j, fun j => if j = i then v else val j, fun j => if j = i then .pure else kd j, if_pos rfl, fun b => if_pos rfl, ⟨by omega, ht.fl, fun j h3 h4 => ?_, fun j hj1 hj2 => ?_, ?_, fun j h3 h4 => ?_, ?_⟩, fun j hj1 hj2 hk q hq => ?_, fun j hj1 hj2 hk => ?_⟩
    · by_cases hji : j = i
      · simp only [if_pos hji]; exact htw
      · simp only [if_neg hji]; exact ht.twin j (by omega) h4
    · by_cases hji : j = i
      · subst hji
        refine ⟨o, ho, hd, by simp [hE], by simpa using hg, .inl ⟨by simp, fun b => ⟨by simpa using h b, by simp [hH]⟩, fun j' h4 h5 => by omega, fun j' h4 h5 hk => ?_⟩⟩
        simp only [if_neg (show j' ≠ j by omega), if_neg (show j' + 1 ≠ j by omega)] at hk ⊢
        simp only [if_true]
        exact (h2 j' (by omega) h5 hk).1 (j, fun σ' => AOp P σ' e o v σ') (by simp)
      · obtain ⟨o', ho', hd', hE', hg', hc⟩ := ht.pre j (by omega) hj2
        simp only [if_neg hji, if_neg (show j + 1 ≠ i by omega)]
        refine ⟨o', ho', hd', hE', hg', ?_⟩
        rcases hc with ⟨a0, a1, a4, a5⟩ | ⟨a0, a1, a3⟩
        · refine .inl ⟨a0, a1, fun j' h4 h5 hk' => ?_, fun j' h4 h5 hk' => ?_⟩
          · by_cases hj' : j' = i
            · subst hj'; simp at hk'
            · simp only [if_neg hj'] at hk' ⊢; exact a4 j' (by omega) h5 hk'
          · simp only [if_neg (show j' ≠ i by omega), if_neg (show j' + 1 ≠ i by omega)] at hk' ⊢; exact a5 j' h4 h5 hk'
        · refine .inr ⟨a0, a1, fun j' h4 h5 hk' => ?_⟩
          by_cases hj' : j' = i
          · subst hj'; simp at hk'
          · simp only [if_neg hj'] at hk'; exact a3 j' (by omega) h5 hk'
    · have := ht.flt; simpa only [if_neg (show f ≠ i by omega), if_neg (show f + 1 ≠ i by omega)] using this
    · have := ht.tail j h3 h4; simpa only [if_neg (show j ≠ i by omega), if_neg (show j + 1 ≠ i by omega)] using this
    · have := ht.fin; have h9 := ht.fl; simpa only [if_neg (show ops.size ≠ i by omega)] using this
    · by_cases hji : j = i
      · subst hji; exact ⟨o, ho, by simp only [if_true]; exact hp.mem q hq⟩
      · simp only [if_neg hji] at hk ⊢; exact h1 j (by omega) hj2 hk q hq
    · by_cases hji : j = i
      · subst hji; simp at hk
      · simp only [if_neg hji, if_neg (show j + 1 ≠ i by omega)] at hk ⊢
        obtain ⟨b1, b2⟩ := h2 j (by omega) hj2 hk
        exact ⟨fun q hq => b1 q (List.mem_cons_of_mem _ hq), b2⟩
  | eff o v σ' ho hg hd h htw' hh hc k ih =>
    rename_i i e σ past held
    obtain ⟨f, E, H, val, kd, hE, hH, ht, h1, h2⟩ := ih htw'
    have hif := ht.le
    refine ⟨f, fun j => if j = i then e else E j, fun b j => if j = i then σ b else H b j, fun j => if j = i then v else val j, fun j => if j = i then .eff else kd j, if_pos rfl, fun b => if_pos rfl, ⟨by omega, ht.fl, fun j h3 h4 => ?_, fun j hj1 hj2 => ?_, ?_, fun j h3 h4 => ?_, ?_⟩, fun j hj1 hj2 hk q hq => ?_, fun j hj1 hj2 hk => ?_⟩
    · by_cases hji : j = i
      · simp only [if_pos hji]; exact htw
      · simp only [if_neg hji]; exact ht.twin j (by omega) h4
    · by_cases hji : j = i
      · subst hji
        refine ⟨o, ho, hd, by simp [hE], by simpa using hg, .inr ⟨by simp, fun b => ?_, fun j' h4 h5 => by omega⟩⟩
        simp only [if_true, if_neg (show j + 1 ≠ j by omega), hH]; exact h b
      · obtain ⟨o', ho', hd', hE', hg', hc'⟩ := ht.pre j (by omega) hj2
        simp only [if_neg hji, if_neg (show j + 1 ≠ i by omega)]
        refine ⟨o', ho', hd', hE', hg', ?_⟩
        rcases hc' with ⟨a0, a1, a4, a5⟩ | ⟨a0, a1, a3⟩
        · refine .inl ⟨a0, a1, fun j' h4 h5 hk' => ?_, fun j' h4 h5 hk' => ?_⟩
          · by_cases hj' : j' = i
            · subst hj'
              obtain ⟨o2, ho2, hx⟩ := h1 j (by omega) hj2 a0 (j', σ) (by simp)
              rw [ho'] at ho2; cases ho2
              simp only [if_true]; exact hx
            · simp only [if_neg hj'] at hk' ⊢; exact a4 j' (by omega) h5 hk'
          · simp only [if_neg (show j' ≠ i by omega), if_neg (show j' + 1 ≠ i by omega)] at hk' ⊢; exact a5 j' h4 h5 hk'
        · refine .inr ⟨a0, a1, fun j' h4 h5 hk' => ?_⟩
          by_cases hj' : j' = i
          · subst hj'; exact (h2 j (by omega) hj2 a0).2 (j', σ) (by simp)
          · simp only [if_neg hj'] at hk'; exact a3 j' (by omega) h5 hk'
    · have := ht.flt; simpa only [if_neg (show f ≠ i by omega), if_neg (show f + 1 ≠ i by omega)] using this
    · have := ht.tail j h3 h4; simpa only [if_neg (show j ≠ i by omega), if_neg (show j + 1 ≠ i by omega)] using this
    · have := ht.fin; have h9 := ht.fl; simpa only [if_neg (show ops.size ≠ i by omega)] using this
    · by_cases hji : j = i
      · subst hji; simp at hk
      · simp only [if_neg hji] at hk ⊢; exact h1 j (by omega) hj2 hk q (List.mem_cons_of_mem _ hq)
    · by_cases hji : j = i
      · subst hji
        exact ⟨fun q hq => by simp only [if_neg (show j + 1 ≠ j by omega), hH]; exact hh.mem q hq, hc.mem⟩
      · simp only [if_neg hji, if_neg (show j + 1 ≠ i by omega)] at hk ⊢
        obtain ⟨b1, b2⟩ := h2 j (by omega) hj2 hk
        exact ⟨b1, fun q hq => b2 q (List.mem_cons_of_mem _ hq)⟩
end rp
end Lg
namespace Lg
open Go Go.RowKit
variable [GLay]
section sound
variable {P : Program} {N : Nat} {ops : Array Oper} {tb : Array Nat} {Q : Env → List AO → Prop} {B : AO} {L : Nat}
structure InvG (ops : Array Oper) (N f : Nat) (E : Nat → Env) (H : Bool → Nat → List AO) (val : Nat → AV) (kd : Nat → Kd) (s0 : CS) (listed : Array Bool) (a : Act) (w : World) : Prop where
  size : listed.size = ops.size
  dn : ∀ j o, ops[j]? = some o → listed.getD j false = true → ∀ ed ∈ o.after.toList, Region.binds .any ed = true → listed.getD ed.on false = true
  st : ∃ s q, s.w = w ∧ Good s ∧ Ext s0 s ∧ q ≤ ops.size ∧ (∀ j, j < q → kd j = .eff → listed.getD j false = true) ∧ (q < ops.size → kd q = .eff ∧ listed.getD q false = false) ∧ s.σ = H (listed.getD f false) q ∧
    a.tmps.size = N ∧ DefOK s (E 0).D a.defers ∧ ∀ t, V s (preA ops (E 0) val (fun j => listed.getD j false) ops.size t) (a.eval (.tmp t))
theorem InvG.way {f : Nat} {E : Nat → Env} {H : Bool → Nat → List AO} {val : Nat → AV} {kd : Nat → Kd} {s0 : CS} {listed : Array Bool} {a : Act} {w : World} (c : Chk ops tb) (h : InvG ops N f E H val kd s0 listed a w) :
    ∀ (j : Nat) (o : Oper), ops[j]? = some o → (∀ ed ∈ o.after.toList, Region.binds .any ed = true → listed.getD ed.on false = true) → ∀ i, i < ops.size → befB tb i j = true → listed.getD i false = true := by
  intro j
  induction j using Nat.strongRecOn with
  | _ j ih =>
    intro o ho hdeps i hi hb
    obtain ⟨ed, hed, hbd, h1⟩ := c.way i j o ho hi hb
    have hon := hdeps ed hed hbd
    rcases h1 with h1 | h1
    · rw [← h1]; exact hon
    · have hlt := (c.edge j o ho ed hed hbd).1
      have hjn : ed.on < ops.size := by have := (Array.getElem?_eq_some_iff.1 ho).1; omega
      have ho' := Array.getElem?_eq_getElem hjn
      exact ih ed.on hlt _ ho' (h.dn ed.on _ ho' hon) i hi h1
/-- The plan at one place: what all steps have. -/
theorem TrG.step {i0 f : Nat} {E : Nat → Env} {H : Bool → Nat → List AO} {val : Nat → AV} {kd : Nat → Kd} (ht : TrG P N ops tb B L Q i0 f E H val kd) : ∀ i, i0 ≤ i → i < ops.size → ∃ o, ops[i]? = some o ∧ (∀ d, o.dst = some d → d < N) ∧ E (i + 1) = (E i).put o.dst (val i) ∧ GuardA ops N (E i) o true := fun i h0 hi => by
  rcases Nat.lt_trichotomy i f with h | h | h
  · obtain ⟨o, a1, a2, a3, a4, _⟩ := ht.pre i h0 h; exact ⟨o, a1, a2, a3, a4⟩
  · subst h; obtain ⟨o, a1, a2, a3, a4, _⟩ := ht.flt; exact ⟨o, a1, a2, a3, a4⟩
  · obtain ⟨o, a1, a2, a3, a4, _⟩ := ht.tail i h hi; exact ⟨o, a1, a2, a3, a4⟩
theorem TrG.hconst {i0 f : Nat} {E : Nat → Env} {H : Bool → Nat → List AO} {val : Nat → AV} {kd : Nat → Kd} (ht : TrG P N ops tb B L Q i0 f E H val kd) (z : Bool) : ∀ (b a : Nat), i0 ≤ a → a ≤ b → b ≤ ops.size → (∀ j, a ≤ j → j < b → kd j ≠ .eff) → H z a = H z b
  | 0, a, _, h, _, _ => by have : a = 0 := by omega
                           subst this; rfl
  | b + 1, a, h0, h, hb, hk => by
    by_cases e : a = b + 1
    · subst e; rfl
    · have ih := ht.hconst z b a h0 (by omega) (by omega) (fun j h1 h2 => hk j h1 (by omega))
      have hkb := hk b (by omega) (by omega)
      have : H z (b + 1) = H z b := by
        rcases Nat.lt_trichotomy b f with h1 | h1 | h1
        · obtain ⟨o, _, _, _, _, hc⟩ := ht.pre b (by omega) h1
          rcases hc with ⟨_, h2, _⟩ | ⟨h2, _⟩
          · exact (h2 z).2
          · exact absurd h2 hkb
        · subst h1
          obtain ⟨o, _, _, _, _, _, h2, _⟩ := ht.flt
          exact h2 z
        · obtain ⟨o, _, _, _, _, h2, _⟩ := ht.tail b h1 (by omega)
          exact absurd h2 hkb
      rw [ih, this]
end sound
end Lg
namespace Lg
open Go Go.RowKit
variable [GLay]
section
variable {P : Program} {N : Nat} {σ l : List AO} {e : Env} {o : Oper} {Q : QA}
end
section
variable {P : Program} {N : Nat} {ops : Array Oper} {tb : Array Nat} {B : AO} {L : Nat} {QR : Env → List AO → Prop} {i : Nat} {D : List (FuncId × List AV)} {el : List (Nat × AV)} {σ : Bool → List AO} {past : List (Nat × (Bool → List AO))} {held : List (Nat × (List AO → Prop))} {o : Oper} {v : AV} {d : Nat}
end
end Lg
namespace Lg
open Go Go.RowKit
variable [GLay]
section
variable {P : Program} {N : Nat} {e : Env} {σ : List AO} {Q : QA}
/-- Ways joined; what is behind the objects that go on is let go. -/
theorem AWp_joinT {ι : Type} {c d : Code} (I : ι → Prop) (E : ι → Env) (S : ι → List AO) (hc : AWp P N c e σ fun ex e' σ' => match ex with
      | .normal => ∃ j n, I j ∧ σ.length ≤ n ∧ Sub e' (E j) ∧ closed n σ' ∧ ltE n (E j) ∧ σ'.take n = S j
      | ex => Q ex e' σ') (hd : ∀ i, I i → AWp P N d (E i) (S i) Q) : AWp P N (.seq c d) e σ Q := fun s0 s a hs g x he =>
  wp_seq (wp_mono (hc s s a hs g (Ext.refl s) he) fun ex a' w' hp => by
    obtain ⟨s', h1, h2, h3, e', h4, h5⟩ := hp
    cases ex with
    | normal =>
      obtain ⟨j, n, hI, hn, hsub, hcl, hlt, hσ⟩ := h5
      subst h1
      exact hd j hI s0 (s'.cut n) a' hσ (h2.cut hcl) (x.trans (h3.cutm (by rw [hs]; exact hn))) ((hsub.ok h4).cut hlt)
    | exit id => exact ⟨s', h1, h2, x.trans h3, e', h4, h5⟩
    | ret => exact ⟨s', h1, h2, x.trans h3, e', h4, h5⟩
    | goto l => exact h5.elim
    | outgrown => exact h5.elim
    | panic ch =>
      cases ch with
      | nil => exact h5.elim
      | cons en r =>
        cases r with
        | nil => exact ⟨s', h1, h2, x.trans h3, e', h4, h5⟩
        | cons => exact h5.elim)
end
end Lg
namespace Lg
open Go
/-! ### Members in their order, one more, one less -/
def prM (m : List BJ) (key : ByteArray) : List BJ := m.take (rinsK m key) ++ m.drop (rinsK m key + 1)
section
variable [GLay] {key : ByteArray} {x y : JV}
theorem padM_nil : padM [] key x = [(key, x)] := by simp [padM, fnd, rinsK]
theorem padM_cons (q : BJ) (r : List BJ) : padM (q :: r) key x = if blt q.1 key = true then q :: padM r key x else if q.1 = key then (key, x) :: r else (key, x) :: q :: r := by
  unfold padM
  rw [rinsK_cons, fnd_cons]
  by_cases h : blt q.1 key = true
  · simp only [if_pos h]
    by_cases hf : fnd r key = true
    · rw [if_pos hf, if_pos hf]; rfl
    · rw [if_neg hf, if_neg hf]; rfl
  · simp only [if_neg h]
    by_cases hq : q.1 = key
    · simp [hq]
    · simp [hq]
theorem prM_cons (q : BJ) (r : List BJ) : prM (q :: r) key = if blt q.1 key = true then q :: prM r key else r := by
  unfold prM
  rw [rinsK_cons]
  by_cases h : blt q.1 key = true
  · simp only [if_pos h]; rfl
  · simp only [if_neg h]; rfl
theorem padM_mem : ∀ (m : List BJ), ∀ q ∈ padM m key x, q = (key, x) ∨ q ∈ m
  | [], q, h => by rw [padM_nil] at h; simp at h; exact .inl h
  | p :: r, q, h => by
    rw [padM_cons] at h
    split at h
    · rcases List.mem_cons.1 h with h | h
      · exact .inr (h ▸ List.mem_cons_self ..)
      · rcases padM_mem r q h with h | h
        · exact .inl h
        · exact .inr (List.mem_cons_of_mem _ h)
    · split at h
      · rcases List.mem_cons.1 h with h | h
        · exact .inl h
        · exact .inr (List.mem_cons_of_mem _ h)
      · rcases List.mem_cons.1 h with h | h
        · exact .inl h
        · exact .inr h
theorem padM_sorted : ∀ {m : List BJ}, msorted m → msorted (padM m key x)
  | [], _ => by rw [padM_nil]; exact List.pairwise_singleton _ _
  | p :: r, hs => by
    have hs' : msorted r := (List.pairwise_cons.1 hs).2
    have hall := (List.pairwise_cons.1 hs).1
    rw [padM_cons]
    split
    · rename_i hb
      refine List.pairwise_cons.2 ⟨fun q hq => ?_, padM_sorted hs'⟩
      rcases padM_mem r q hq with h | h
      · subst h; exact hb
      · exact hall q h
    · rename_i hb
      split
      · rename_i hq
        exact List.pairwise_cons.2 ⟨fun q h => by rw [← hq]; exact hall q h, hs'⟩
      · rename_i hq
        have hlt := blt_tri hb hq
        refine List.pairwise_cons.2 ⟨fun q h => ?_, hs⟩
        rcases List.mem_cons.1 h with h | h
        · subst h; exact hlt
        · exact blt_trans hlt (hall q h)
theorem padM_fnd : ∀ (m : List BJ), fnd (padM m key x) key = true ∧ (padM m key x)[rinsK (padM m key x) key]? = some (key, x)
  | [] => by rw [padM_nil, fnd_cons, rinsK_cons, blt_irr]; simp
  | p :: r => by
    have ih := padM_fnd r
    rw [padM_cons]
    split
    · rename_i hb
      rw [fnd_cons, rinsK_cons, if_pos hb, if_pos hb]; exact ih
    · split
      · rw [fnd_cons, rinsK_cons, blt_irr]; simp
      · rw [fnd_cons, rinsK_cons, blt_irr]; simp
theorem prM_padM : ∀ (m : List BJ), fnd m key = false → prM (padM m key x) key = m
  | [], _ => by rw [padM_nil, prM_cons, blt_irr]; rfl
  | p :: r, h => by
    rw [fnd_cons] at h
    rw [padM_cons]
    split
    · rename_i hb
      rw [if_pos hb] at h
      rw [prM_cons, if_pos hb, prM_padM r h]
    · rename_i hb
      rw [if_neg hb] at h
      rw [if_neg (by simpa using h), prM_cons, blt_irr]; rfl
theorem padM_prM : ∀ {m : List BJ} {q : BJ}, msorted m → m[rinsK m key]? = some q → q.1 = key → padM (prM m key) key q.2 = m
  | [], q, _, h, _ => by simp [rinsK] at h
  | p :: r, q, hs, h, hq => by
    have hs' : msorted r := (List.pairwise_cons.1 hs).2
    have hall := (List.pairwise_cons.1 hs).1
    rw [rinsK_cons] at h
    rw [prM_cons]
    split at h
    · rename_i hb
      rw [if_pos hb, padM_cons, if_pos hb, padM_prM hs' (by simpa using h) hq]
    · rename_i hb
      rw [if_neg hb]
      have hp : p = q := by simpa using h
      subst hp
      cases r with
      | nil => rw [padM_nil, ← hq]
      | cons c r' =>
        have hc := hall c (List.mem_cons_self ..)
        rw [padM_cons, if_neg (by rw [← hq, blt_asym hc]; decide), if_neg (fun e => blt_ne hc (hq.trans e.symm)), ← hq]
theorem prM_sorted {m : List BJ} (h : msorted m) : msorted (prM m key) := by
  unfold prM; rw [← List.eraseIdx_eq_take_drop_succ]
  exact List.Pairwise.sublist (List.eraseIdx_sublist ..) h
theorem set_keys {m : List BJ} {k : Nat} {q : BJ} (hq : m[k]? = some q) : (m.set k (q.1, y)).map (·.1) = m.map (·.1) := by
  obtain ⟨hk, e⟩ := List.getElem?_eq_some_iff.1 hq
  rw [List.map_set]
  have : (m.map (·.1))[k]'(by simpa using hk) = q.1 := by simp [e]
  show List.set _ k q.1 = _
  rw [← this, List.set_getElem_self]
theorem ms_keys {m n : List BJ} (h : m.map (·.1) = n.map (·.1)) (hs : msorted n) : msorted m := by
  have h1 : (n.map (·.1)).Pairwise (fun a b => blt a b = true) := List.pairwise_map.2 hs
  rw [← h] at h1
  exact List.pairwise_map.1 h1
theorem rinsK_map (m : List BJ) : rinsK m key = ((m.map (·.1)).takeWhile fun a => blt a key).length := by
  rw [List.takeWhile_map, List.length_map]; rfl
theorem rinsK_keys {m n : List BJ} (h : m.map (·.1) = n.map (·.1)) : rinsK m key = rinsK n key := by rw [rinsK_map, rinsK_map, h]
theorem fnd_y {m : List BJ} {q : BJ} (h : m[rinsK m key]? = some q) (hq : q.1 = key) : fnd m key = true := by unfold fnd; rw [h]; simp [hq]
end
/-! ### What stands where, by the members' order -/
section
variable [GLay] {nm : BL} {r : List BL} {v : JV}
theorem jget_f5 {q : BJ} (hs : msorted v.m) (h5 : v.kind = 5) (hf : fnd v.m (ba nm) = true) (hq : v.m[rinsK v.m (ba nm)]? = some q) : jget (nm :: r) v = jget r q.2 := by
  have e : jfD v (ba nm) = q.2 := by unfold jfD jfind; rw [if_pos h5, find_sort _ hs, if_pos hf, hq]; rfl
  rw [jget_5 (by omega) (by rw [jfB_fnd h5 hs]; exact hf), e]
theorem jget_nf5 (hs : msorted v.m) (h5 : v.kind = 5) (hf : fnd v.m (ba nm) = false) : jget (nm :: r) v = (vz, false) := jget_no5 (by omega) (by rw [jfB_fnd h5 hs]; exact hf)
theorem jget_nk (h4 : ¬ v.kind = 4) (h5 : ¬ v.kind = 5) : jget (nm :: r) v = (vz, false) := jget_no5 h4 (by unfold jfB jfind; rw [if_neg h5]; rfl)
theorem jget_app (r : List BL) : ∀ (l : List BL) (v : JV), jget (l ++ r) v = if (jget l v).2 = true then jget r (jget l v).1 else (vz, false)
  | [], v => by simp [jget]
  | nm :: l, v => by
    rw [List.cons_append, jget, jget]
    split
    · split
      · exact jget_app r l _
      · simp
    · split
      · exact jget_app r l _
      · simp
theorem jget_st : ∀ (l : List BL) {v : JV}, jst v → jst (jget l v).1
  | [], v, h => h
  | nm :: r, v, h => by
    by_cases h4 : v.kind = 4
    · by_cases ho : jixO nm v.l.length false = true
      · obtain ⟨k, hk, hlt⟩ := jix_nat ho
        rw [jget_4 h4 ho hk (List.getElem?_eq_getElem hlt)]
        exact jget_st r (st_get h (List.getElem?_eq_getElem hlt))
      · rw [jget_no4 h4 (by simpa using ho)]; exact st_vz
    · by_cases h5 : v.kind = 5
      · by_cases hf : fnd v.m (ba nm) = true
        · obtain ⟨q, hq, _⟩ := fnd_get hf
          rw [jget_f5 (st_ms h) h5 hf hq]; exact jget_st r (st_mget h hq)
        · rw [jget_nf5 (st_ms h) h5 (by simpa using hf)]; exact st_vz
      · rw [jget_nk h4 h5]; exact st_vz
end
section
variable [GLay] {g : JV → JV × Bool}
theorem pwi_jget : ∀ (l : List BL) (v : JV), jst v → (pwi g l v).2 = true → (jget l v).2 = true ∧ (g (jget l v).1).2 = true ∧ ∀ r, jget (l ++ r) (pwi g l v).1 = jget r (g (jget l v).1).1
  | [], v, _, h => ⟨rfl, h, fun r => rfl⟩
  | nm :: l, v, hv, h => by
    by_cases h4 : v.kind = 4
    · by_cases ho : jixO nm v.l.length false = true
      · obtain ⟨k, hk, hkl⟩ := jix_nat ho
        have ha : v.l[k]? = some v.l[k] := List.getElem?_eq_getElem hkl
        cases hb : (pwi g l v.l[k]).2 with
        | false => rw [pwi_bad4 h4 hk ha hb] at h; cases h
        | true =>
          have ih := pwi_jget l v.l[k] (st_get hv ha) hb
          rw [jget_4 h4 ho hk ha, pwi_4 h4 ho hk ha hb]
          refine ⟨ih.1, ih.2.1, fun r => ?_⟩
          exact (jget_4 (nm := nm) (r := l ++ r) (v := .mk v.kind v.b v.n v.s (v.l.set k (pwi g l v.l[k]).1) v.m) (k := k) (a := (pwi g l v.l[k]).1) h4 (by show jixO nm (v.l.set k _).length false = true; rw [List.length_set]; exact ho) (by show jixN nm (v.l.set k _).length false = k; rw [List.length_set]; exact hk) (by show (v.l.set k _)[k]? = _; rw [List.getElem?_set_self hkl])).trans (ih.2.2 r)
      · rw [pwi_no4 h4 (by simpa using ho)] at h; cases h
    · by_cases h5 : v.kind = 5
      · by_cases hf : fnd v.m (ba nm) = true
        · obtain ⟨q, hq, hqk⟩ := fnd_get hf
          have hqk : q.1 = ba nm := hqk
          have hkl := (List.getElem?_eq_some_iff.1 hq).1
          cases hb : (pwi g l q.2).2 with
          | false => rw [pwi_bad5 h4 hq hb] at h; cases h
          | true =>
            have ih := pwi_jget l q.2 (st_mget hv hq) hb
            rw [jget_f5 (st_ms hv) h5 hf hq, pwi_5 h4 h5 hf hq hb]
            refine ⟨ih.1, ih.2.1, fun r => ?_⟩
            have hkeys : (v.m.set (rinsK v.m (ba nm)) (ba nm, (pwi g l q.2).1)).map (·.1) = v.m.map (·.1) := by rw [← hqk]; rw [← hqk] at hq; exact set_keys hq
            have hk := rinsK_keys (key := ba nm) hkeys
            have hg : (v.m.set (rinsK v.m (ba nm)) (ba nm, (pwi g l q.2).1))[rinsK (v.m.set (rinsK v.m (ba nm)) (ba nm, (pwi g l q.2).1)) (ba nm)]? = some (ba nm, (pwi g l q.2).1) := by rw [hk, List.getElem?_set_self hkl]
            exact (jget_f5 (nm := nm) (r := l ++ r) (v := .mk v.kind v.b v.n v.s v.l (v.m.set (rinsK v.m (ba nm)) (ba nm, (pwi g l q.2).1))) (ms_keys hkeys (st_ms hv)) h5 (fnd_y hg rfl) hg).trans (ih.2.2 r)
        · rw [pwi_no5 h4 (by simpa using hf)] at h; cases h
      · rw [pwi_n h4 h5] at h; cases h
theorem pwi_ok : ∀ (l : List BL) (v : JV), jst v → (jget l v).2 = true → (g (jget l v).1).2 = true → (pwi g l v).2 = true
  | [], v, _, _, h => h
  | nm :: l, v, hv, h, hg => by
    by_cases h4 : v.kind = 4
    · by_cases ho : jixO nm v.l.length false = true
      · obtain ⟨k, hk, hkl⟩ := jix_nat ho
        have ha : v.l[k]? = some v.l[k] := List.getElem?_eq_getElem hkl
        rw [jget_4 h4 ho hk ha] at h hg
        rw [pwi_4 h4 ho hk ha (pwi_ok l _ (st_get hv ha) h hg)]
      · rw [jget_no4 h4 (by simpa using ho)] at h; cases h
    · by_cases h5 : v.kind = 5
      · by_cases hf : fnd v.m (ba nm) = true
        · obtain ⟨q, hq, hqk⟩ := fnd_get hf
          rw [jget_f5 (st_ms hv) h5 hf hq] at h hg
          rw [pwi_5 h4 h5 hf hq (pwi_ok l _ (st_mget hv hq) h hg)]
        · rw [jget_nf5 (st_ms hv) h5 (by simpa using hf)] at h; cases h
      · rw [jget_nk h4 h5] at h; cases h
theorem jv_eta (v : JV) : JV.mk v.kind v.b v.n v.s v.l v.m = v := by cases v; rfl
theorem pwi_back {h : JV → JV × Bool} : ∀ (l : List BL) (v : JV), jst v → (pwi g l v).2 = true → h (g (jget l v).1).1 = ((jget l v).1, true) → pwi h l (pwi g l v).1 = (v, true)
  | [], v, _, _, he => he
  | nm :: l, v, hv, h1, he => by
    by_cases h4 : v.kind = 4
    · by_cases ho : jixO nm v.l.length false = true
      · obtain ⟨k, hk, hkl⟩ := jix_nat ho
        have ha : v.l[k]? = some v.l[k] := List.getElem?_eq_getElem hkl
        cases hb : (pwi g l v.l[k]).2 with
        | false => rw [pwi_bad4 h4 hk ha hb] at h1; cases h1
        | true =>
          rw [jget_4 h4 ho hk ha] at he
          have ih := pwi_back l v.l[k] (st_get hv ha) hb he
          rw [pwi_4 h4 ho hk ha hb]
          refine (pwi_4 (g := h) (nm := nm) (r := l) (v := .mk v.kind v.b v.n v.s (v.l.set k (pwi g l v.l[k]).1) v.m) (k := k) (a := (pwi g l v.l[k]).1) h4 (by show jixO nm (v.l.set k _).length false = true; rw [List.length_set]; exact ho) (by show jixN nm (v.l.set k _).length false = k; rw [List.length_set]; exact hk) (by show (v.l.set k _)[k]? = _; rw [List.getElem?_set_self hkl]) (by rw [ih])).trans ?_
          rw [ih]
          show (JV.mk v.kind v.b v.n v.s ((v.l.set k _).set k v.l[k]) v.m, true) = _
          rw [List.set_set, List.set_getElem_self, jv_eta]
      · rw [pwi_no4 h4 (by simpa using ho)] at h1; cases h1
    · by_cases h5 : v.kind = 5
      · by_cases hf : fnd v.m (ba nm) = true
        · obtain ⟨q, hq, hqk⟩ := fnd_get hf
          have hqk : q.1 = ba nm := hqk
          have hkl := (List.getElem?_eq_some_iff.1 hq).1
          cases hb : (pwi g l q.2).2 with
          | false => rw [pwi_bad5 h4 hq hb] at h1; cases h1
          | true =>
            rw [jget_f5 (st_ms hv) h5 hf hq] at he
            have ih := pwi_back l q.2 (st_mget hv hq) hb he
            have hkeys : (v.m.set (rinsK v.m (ba nm)) (ba nm, (pwi g l q.2).1)).map (·.1) = v.m.map (·.1) := by rw [← hqk]; rw [← hqk] at hq; exact set_keys hq
            have hk := rinsK_keys (key := ba nm) hkeys
            have hg : (v.m.set (rinsK v.m (ba nm)) (ba nm, (pwi g l q.2).1))[rinsK (v.m.set (rinsK v.m (ba nm)) (ba nm, (pwi g l q.2).1)) (ba nm)]? = some (ba nm, (pwi g l q.2).1) := by rw [hk, List.getElem?_set_self hkl]
            rw [pwi_5 h4 h5 hf hq hb]
            refine (pwi_5 (g := h) (nm := nm) (r := l) (v := .mk v.kind v.b v.n v.s v.l (v.m.set (rinsK v.m (ba nm)) (ba nm, (pwi g l q.2).1))) (q := (ba nm, (pwi g l q.2).1)) h4 h5 (fnd_y hg rfl) hg (by rw [ih])).trans ?_
            rw [ih]
            show (JV.mk v.kind v.b v.n v.s v.l ((v.m.set (rinsK v.m (ba nm)) _).set (rinsK (v.m.set (rinsK v.m (ba nm)) _) (ba nm)) (ba nm, q.2)), true) = _
            have e : (ba nm, q.2) = v.m[rinsK v.m (ba nm)]'hkl := by
              rw [(List.getElem?_eq_some_iff.1 hq).2, ← hqk]
            rw [hk, List.set_set, e, List.set_getElem_self, jv_eta]
        · rw [pwi_no5 h4 (by simpa using hf)] at h1; cases h1
      · rw [pwi_n h4 h5] at h1; cases h1
theorem set_mem {α : Type} {l : List α} {k : Nat} {a x : α} (h : x ∈ l.set k a) : x ∈ l ∨ x = a := List.mem_or_eq_of_mem_set h
theorem pwi_st (hg : ∀ v, jst v → jst (g v).1) : ∀ (l : List BL) (v : JV), jst v → jst (pwi g l v).1
  | [], v, h => hg v h
  | nm :: l, v, hv => by
    by_cases h4 : v.kind = 4
    · by_cases ho : jixO nm v.l.length false = true
      · obtain ⟨k, hk, hkl⟩ := jix_nat ho
        have ha : v.l[k]? = some v.l[k] := List.getElem?_eq_getElem hkl
        cases hb : (pwi g l v.l[k]).2 with
        | false => rw [pwi_bad4 h4 hk ha hb]; exact st_vz
        | true =>
          rw [pwi_4 h4 ho hk ha hb, st_eq]
          have hv' := (st_eq v).1 hv
          refine ⟨fun h => absurd h4 h, hv'.2.1, hv'.2.2.1, fun x hx => ?_, hv'.2.2.2.2⟩
          rcases set_mem hx with hx | hx
          · exact hv'.2.2.2.1 x hx
          · rw [hx]; exact pwi_st hg l _ (st_get hv ha)
      · rw [pwi_no4 h4 (by simpa using ho)]; exact st_vz
    · by_cases h5 : v.kind = 5
      · by_cases hf : fnd v.m (ba nm) = true
        · obtain ⟨q, hq, hqk⟩ := fnd_get hf
          have hqk : q.1 = ba nm := hqk
          cases hb : (pwi g l q.2).2 with
          | false => rw [pwi_bad5 h4 hq hb]; exact st_vz
          | true =>
            rw [pwi_5 h4 h5 hf hq hb, st_eq]
            have hv' := (st_eq v).1 hv
            refine ⟨hv'.1, fun h => absurd h5 h, ms_keys (n := v.m) (by rw [← hqk]; rw [← hqk] at hq; exact set_keys hq) hv'.2.2.1, hv'.2.2.2.1, fun x hx => ?_⟩
            rcases set_mem hx with hx | hx
            · exact hv'.2.2.2.2 x hx
            · rw [hx]; exact pwi_st hg l _ (st_mget hv hq)
        · rw [pwi_no5 h4 (by simpa using hf)]; exact st_vz
      · rw [pwi_n h4 h5]; exact st_vz
end
/-! ### At the last name -/
section
variable [GLay] {nm : BL} {x u : JV}
theorem padd_st (hx : jst x) (v : JV) (hv : jst v) : jst (padd nm x v).1 := by
  have hv' := (st_eq v).1 hv
  by_cases h4 : v.kind = 4
  · by_cases ho : jixO nm v.l.length true = true
    · obtain ⟨k, hk, hkl⟩ := jix_nat2 ho
      rw [padd_4 h4 ho hk, st_eq]
      refine ⟨fun h => absurd h4 h, hv'.2.1, hv'.2.2.1, fun y hy => ?_, hv'.2.2.2.2⟩
      rcases List.mem_append.1 hy with h | h
      · exact hv'.2.2.2.1 y (List.mem_of_mem_take h)
      · rcases List.mem_cons.1 h with h | h
        · rw [h]; exact hx
        · exact hv'.2.2.2.1 y (List.mem_of_mem_drop h)
    · rw [padd_no h4 (by simpa using ho)]; exact st_vz
  · by_cases h5 : v.kind = 5
    · rw [padd_5 h5, st_eq]
      refine ⟨hv'.1, fun h => absurd h5 h, padM_sorted hv'.2.2.1, hv'.2.2.2.1, fun q hq => ?_⟩
      rcases padM_mem _ q hq with h | h
      · rw [h]; exact hx
      · exact hv'.2.2.2.2 q h
    · rw [padd_n h4 h5]; exact st_vz
theorem prem_st (v : JV) (hv : jst v) : jst (prem nm v).1 := by
  have hv' := (st_eq v).1 hv
  by_cases h4 : v.kind = 4
  · by_cases ho : jixO nm v.l.length false = true
    · obtain ⟨k, hk, hkl⟩ := jix_nat ho
      rw [prem_4 h4 ho hk, st_eq]
      refine ⟨fun h => absurd h4 h, hv'.2.1, hv'.2.2.1, fun y hy => ?_, hv'.2.2.2.2⟩
      rcases List.mem_append.1 hy with h | h
      · exact hv'.2.2.2.1 y (List.mem_of_mem_take h)
      · exact hv'.2.2.2.1 y (List.mem_of_mem_drop h)
    · rw [prem_no h4 (by simpa using ho)]; exact st_vz
  · by_cases h5 : v.kind = 5
    · by_cases hf : fnd v.m (ba nm) = true
      · rw [prem_5 h5 hf, st_eq]
        refine ⟨hv'.1, fun h => absurd h5 h, prM_sorted hv'.2.2.1, hv'.2.2.2.1, fun q hq => ?_⟩
        rcases List.mem_append.1 hq with h | h
        · exact hv'.2.2.2.2 q (List.mem_of_mem_take h)
        · exact hv'.2.2.2.2 q (List.mem_of_mem_drop h)
      · rw [prem_no5 h5 (by simpa using hf)]; exact st_vz
    · rw [prem_n h4 h5]; exact st_vz
theorem jed_st {op : Int} (hop : op = 1 ∨ op = 2 ∨ op = 3) {x : JV} (hx : jst x) (l : List BL) {v : JV} (hv : jst v) : jst (jed op x l v).1 := by
  rcases hop with rfl | rfl | rfl
  · rcases List.eq_nil_or_concat l with rfl | ⟨l0, nm, rfl⟩
    · rw [jed_nil (by decide)]; exact hx
    · rw [List.concat_eq_append, jed_add x l0 nm v hv]; exact pwi_st (padd_st hx) l0 v hv
  · rcases List.eq_nil_or_concat l with rfl | ⟨l0, nm, rfl⟩
    · rw [jed_nil2]; exact st_vz
    · rw [List.concat_eq_append, jed_rem x l0 nm v hv]; exact pwi_st prem_st l0 v hv
  · rw [jed_rep x l v hv]; exact pwi_st (fun _ _ => hx) l v hv
/-- The name of what was added: its number, where the name says 'behind all'. -/
def nmB (u : JV) (nm : BL) : BL := if u.kind = 4 ∧ nm = [45] then Lib.itoa (u.l.length : Int) else nm
theorem jix_of {nm : BL} {n k : Nat} {e : Bool} (h1 : ¬ nm = [45]) (hb : ¬ jixB nm) (hv : valL 0 nm = k) (hk : k < n ∨ (k = n ∧ e = true)) : jixO nm n e = true ∧ jixN nm n e = k := by
  have := jix_val (nm := nm) (n := n) (e := e) (fun h => h1 h.2) hb (by omega) (by rcases hk with h | h; exact .inl (by omega); exact .inr ⟨by omega, h.2⟩)
  exact ⟨this.2, by rw [this.1, hv]⟩
theorem jix_inv {nm : BL} {n k : Nat} {e : Bool} (ho : jixO nm n e = true) (hk : jixN nm n e = k) (h1 : ¬ (e = true ∧ nm = [45])) : ¬ jixB nm ∧ valL 0 nm = k := by
  by_cases hb : jixB nm
  · have := (jix_bad (n := n) h1 hb).2; rw [this] at ho; cases ho
  · by_cases hv : valL 0 nm < n ∨ (valL 0 nm = n ∧ e = true)
    · have := jix_val h1 hb (valL_bd (jixB_aD hb).1).1 hv
      exact ⟨hb, by rw [← this.1]; exact hk⟩
    · have := (jix_big h1 hb hv).2; rw [this] at ho; cases ho
theorem jixB_minus : jixB [45] := by decide +kernel
theorem itoa_ix {n : Nat} (h : n ≤ 1000000) : ¬ jixB (Lib.itoa (n : Int)) ∧ valL 0 (Lib.itoa (n : Int)) = n := by
  rw [itoa_pos (by omega), Int.toNat_natCast]
  obtain ⟨h1, h2, h3, h4⟩ := dd_facts n
  refine ⟨?_, h2⟩
  have hr : runl (ba (Lib.decDigits n)) 0 = (Lib.decDigits n).length := aD_run.1 h1
  have hl := dd_len n 6 (by omega)
  rintro (e | e | ⟨e1, e2⟩ | e)
  · exact h3 e
  · exact e hr
  · have hn : ¬ n < 10 := fun hn => by rw [dd_small hn] at e1; simp at e1
    have := h4 (by omega)
    apply this
    cases hd : Lib.decDigits n with
    | nil => exact absurd hd h3
    | cons c r =>
      rw [hd] at e2
      have : bat (ba (c :: r)) 0 = c := by rw [bat_ba]; rfl
      rw [this] at e2
      have : c = 48 := UInt8.toNat_inj.1 e2
      rw [this]; rfl
  · omega
theorem nmB_ix (h4 : u.kind = 4) (hl : u.l.length ≤ 1000000) (ho : jixO nm u.l.length true = true) {k : Nat} (hk : jixN nm u.l.length true = k) : jixO (nmB u nm) (u.l.length + 1) false = true ∧ jixN (nmB u nm) (u.l.length + 1) false = k := by
  obtain ⟨k', hk', hkl⟩ := jix_nat2 ho
  have e : k' = k := by omega
  subst e
  unfold nmB
  by_cases hm : nm = [45]
  · rw [if_pos ⟨h4, hm⟩]
    have h1 := (jix_minus (nm := nm) (n := u.l.length) (e := true) rfl hm).1
    have h2 : k' = u.l.length := by omega
    obtain ⟨i1, i2⟩ := itoa_ix hl
    have hne : ¬ Lib.itoa (u.l.length : Int) = [45] := fun e => i1 (e ▸ jixB_minus)
    have := jix_of (nm := Lib.itoa (u.l.length : Int)) (n := u.l.length + 1) (k := u.l.length) (e := false) hne i1 i2 (.inl (by omega))
    rw [h2]; exact this
  · rw [if_neg (fun h => hm h.2)]
    obtain ⟨i1, i2⟩ := jix_inv ho hk' (fun h => hm h.2)
    exact jix_of hm i1 i2 (.inl (by omega))
theorem mk_len (k : Nat) {l : List JV} (h : k ≤ l.length) : (l.take k ++ x :: l.drop k).length = l.length + 1 := by simp; omega
theorem mk_get (k : Nat) {l : List JV} (h : k ≤ l.length) : (l.take k ++ x :: l.drop k)[k]? = some x := by
  rw [List.getElem?_append_right (by simp; omega)]
  have : k - (l.take k).length = 0 := by simp; omega
  rw [this]; rfl
theorem padd_get (hu : jst u) (hl : u.l.length ≤ 1000000) (h : (padd nm x u).2 = true) : jget [nmB u nm] (padd nm x u).1 = (x, true) := by
  by_cases h4 : u.kind = 4
  · by_cases ho : jixO nm u.l.length true = true
    · obtain ⟨k, hk, hkl⟩ := jix_nat2 ho
      obtain ⟨i1, i2⟩ := nmB_ix h4 hl ho hk
      rw [padd_4 h4 ho hk]
      exact jget_4 (k := k) (a := x) h4 (by show jixO _ (List.length (_ ++ _)) false = true; rw [mk_len k hkl]; exact i1) (by show jixN _ (List.length (_ ++ _)) false = _; rw [mk_len k hkl]; exact i2) (mk_get k hkl)
    · rw [padd_no h4 (by simpa using ho)] at h; cases h
  · have hn : nmB u nm = nm := by unfold nmB; rw [if_neg (fun h => h4 h.1)]
    by_cases h5 : u.kind = 5
    · obtain ⟨f1, f2⟩ := padM_fnd (key := ba nm) (x := x) u.m
      rw [padd_5 h5, hn]
      exact jget_f5 (nm := nm) (r := []) (v := .mk u.kind u.b u.n u.s u.l (padM u.m (ba nm) x)) (padM_sorted (st_ms hu)) h5 f1 f2
    · rw [padd_n h4 h5] at h; cases h
theorem padd_prem (hu : jst u) (hl : u.l.length ≤ 1000000) (h : (padd nm x u).2 = true) (h2 : u.kind = 4 ∨ (jget [nm] u).2 = false) : prem (nmB u nm) (padd nm x u).1 = (u, true) := by
  by_cases h4 : u.kind = 4
  · by_cases ho : jixO nm u.l.length true = true
    · obtain ⟨k, hk, hkl⟩ := jix_nat2 ho
      obtain ⟨i1, i2⟩ := nmB_ix h4 hl ho hk
      rw [padd_4 h4 ho hk]
      refine (prem_4 (nm := nmB u nm) (v := .mk u.kind u.b u.n u.s (u.l.take k ++ x :: u.l.drop k) u.m) (k := k) h4 (by show jixO _ (List.length (_ ++ _)) false = true; rw [mk_len k hkl]; exact i1) (by show jixN _ (List.length (_ ++ _)) false = _; rw [mk_len k hkl]; exact i2)).trans ?_
      show (JV.mk u.kind u.b u.n u.s ((u.l.take k ++ x :: u.l.drop k).take k ++ (u.l.take k ++ x :: u.l.drop k).drop (k + 1)) u.m, true) = _
      have e1 : (u.l.take k).length = k := by simp; omega
      rw [List.take_left' e1, ← List.drop_drop, List.drop_left' e1, List.drop_one, List.tail_cons, List.take_append_drop, jv_eta]
    · rw [padd_no h4 (by simpa using ho)] at h; cases h
  · have hn : nmB u nm = nm := by unfold nmB; rw [if_neg (fun h => h4 h.1)]
    by_cases h5 : u.kind = 5
    · have hf : fnd u.m (ba nm) = false := by
        cases hf : fnd u.m (ba nm) with
        | false => rfl
        | true =>
          obtain ⟨q, hq, _⟩ := fnd_get hf
          rcases h2 with h2 | h2
          · exact absurd h2 h4
          · rw [jget_f5 (st_ms hu) h5 hf hq] at h2; cases h2
      obtain ⟨f1, f2⟩ := padM_fnd (key := ba nm) (x := x) u.m
      rw [padd_5 h5, hn]
      refine (prem_5 (nm := nm) (v := .mk u.kind u.b u.n u.s u.l (padM u.m (ba nm) x)) h5 f1).trans ?_
      show (JV.mk u.kind u.b u.n u.s u.l (prM (padM u.m (ba nm) x) (ba nm)), true) = _
      rw [prM_padM _ hf, jv_eta]
    · rw [padd_n h4 h5] at h; cases h
theorem prem_iff (hu : jst u) : (prem nm u).2 = (jget [nm] u).2 := by
  by_cases h4 : u.kind = 4
  · by_cases ho : jixO nm u.l.length false = true
    · obtain ⟨k, hk, hkl⟩ := jix_nat ho
      rw [prem_4 h4 ho hk, jget_4 h4 ho hk (List.getElem?_eq_getElem hkl)]; rfl
    · rw [prem_no h4 (by simpa using ho), jget_no4 h4 (by simpa using ho)]
  · by_cases h5 : u.kind = 5
    · by_cases hf : fnd u.m (ba nm) = true
      · obtain ⟨q, hq, _⟩ := fnd_get hf
        rw [prem_5 h5 hf, jget_f5 (st_ms hu) h5 hf hq]; rfl
      · rw [prem_no5 h5 (by simpa using hf), jget_nf5 (st_ms hu) h5 (by simpa using hf)]
    · rw [prem_n h4 h5, jget_nk h4 h5]
theorem prem_padd (hu : jst u) (h : (prem nm u).2 = true) : padd nm (jget [nm] u).1 (prem nm u).1 = (u, true) := by
  by_cases h4 : u.kind = 4
  · by_cases ho : jixO nm u.l.length false = true
    · obtain ⟨k, hk, hkl⟩ := jix_nat ho
      have ha : u.l[k]? = some u.l[k] := List.getElem?_eq_getElem hkl
      obtain ⟨i1, i2⟩ := jix_inv ho hk (fun h => by cases h.1)
      have hne : ¬ nm = [45] := fun e => i1 (e ▸ jixB_minus)
      have hlen : (u.l.take k ++ u.l.drop (k + 1)).length = u.l.length - 1 := by simp; omega
      obtain ⟨j1, j2⟩ := jix_of (nm := nm) (n := u.l.length - 1) (k := k) (e := true) hne i1 i2 (by rcases Nat.lt_or_ge k (u.l.length - 1) with h | h; exact .inl h; exact .inr ⟨by omega, rfl⟩)
      rw [prem_4 h4 ho hk, jget_4 h4 ho hk ha]
      refine (padd_4 (nm := nm) (x := u.l[k]) (v := .mk u.kind u.b u.n u.s (u.l.take k ++ u.l.drop (k + 1)) u.m) (k := k) h4 (by show jixO _ (List.length (_ ++ _)) true = true; rw [hlen]; exact j1) (by show jixN _ (List.length (_ ++ _)) true = _; rw [hlen]; exact j2)).trans ?_
      show (JV.mk u.kind u.b u.n u.s ((u.l.take k ++ u.l.drop (k + 1)).take k ++ u.l[k] :: (u.l.take k ++ u.l.drop (k + 1)).drop k) u.m, true) = _
      have e1 : (u.l.take k).length = k := by simp; omega
      rw [List.take_left' e1, List.drop_left' e1, ← List.drop_eq_getElem_cons hkl, List.take_append_drop, jv_eta]
    · rw [prem_no h4 (by simpa using ho)] at h; cases h
  · by_cases h5 : u.kind = 5
    · by_cases hf : fnd u.m (ba nm) = true
      · obtain ⟨q, hq, hqk⟩ := fnd_get hf
        rw [prem_5 h5 hf, jget_f5 (st_ms hu) h5 hf hq]
        refine (padd_5 (nm := nm) (x := q.2) (v := .mk u.kind u.b u.n u.s u.l (prM u.m (ba nm))) h5).trans ?_
        show (JV.mk u.kind u.b u.n u.s u.l (padM (prM u.m (ba nm)) (ba nm) q.2), true) = _
        rw [padM_prM (st_ms hu) hq hqk, jv_eta]
      · rw [prem_no5 h5 (by simpa using hf)] at h; cases h
    · rw [prem_n h4 h5] at h; cases h
end
/-! ### Edit, back and forth -/
section
variable [GLay] {x z v : JV} {l0 : List BL} {nm : BL}
theorem eC0 {b : Bool} (h : eC b = 0) : b = true := by cases b <;> simp [eC] at h ⊢
theorem back_rep (l : List BL) (hv : jst v) (h : (jed 3 x l v).2 = 0) : jget l (jed 3 x l v).1 = (x, true) := by
  rw [jed_rep x l v hv] at h ⊢
  have := (pwi_jget l v hv (eC0 h)).2.2 []
  rw [List.append_nil] at this
  exact this
theorem back_add (hv : jst v) (hl : (jget l0 v).1.l.length ≤ 1000000) (h : (jed 1 x (l0 ++ [nm]) v).2 = 0) : jget (l0 ++ [nmB (jget l0 v).1 nm]) (jed 1 x (l0 ++ [nm]) v).1 = (x, true) := by
  rw [jed_add x l0 nm v hv] at h ⊢
  obtain ⟨_, h2, h3⟩ := pwi_jget l0 v hv (eC0 h)
  exact (h3 _).trans (padd_get (jget_st l0 hv) hl h2)
theorem back_add_rem (hv : jst v) (hx : jst x) (hl : (jget l0 v).1.l.length ≤ 1000000) (h : (jed 1 x (l0 ++ [nm]) v).2 = 0) (h2 : (jget l0 v).1.kind = 4 ∨ (jget (l0 ++ [nm]) v).2 = false) : jed 2 z (l0 ++ [nmB (jget l0 v).1 nm]) (jed 1 x (l0 ++ [nm]) v).1 = (v, 0) := by
  have hst := jed_st (op := 1) (.inl rfl) hx (l0 ++ [nm]) hv
  rw [jed_rem z l0 _ _ hst]
  rw [jed_add x l0 nm v hv] at h ⊢
  have h1 := eC0 h
  obtain ⟨g1, g2, g3⟩ := pwi_jget l0 v hv h1
  rw [jget_app, if_pos g1] at h2
  show ((pwi _ l0 (pwi _ l0 v).1).1, eC (pwi _ l0 (pwi _ l0 v).1).2) = _
  rw [pwi_back (h := prem (nmB (jget l0 v).1 nm)) l0 v hv h1 (padd_prem (jget_st l0 hv) hl g2 h2)]; rfl
theorem back_rem_iff (l : List BL) (hv : jst v) : (jed 2 z l v).2 = 0 ↔ (jget l v).2 = true ∧ l ≠ [] := by
  rcases List.eq_nil_or_concat l with rfl | ⟨l0, nm, rfl⟩
  · rw [jed_nil2]; simp
  · rw [List.concat_eq_append, jed_rem z l0 nm v hv, jget_app]
    constructor
    · intro h
      obtain ⟨g1, g2, _⟩ := pwi_jget l0 v hv (eC0 h)
      rw [if_pos g1, ← prem_iff (jget_st l0 hv)]; exact ⟨g2, by simp⟩
    · intro ⟨h, _⟩
      split at h
      · rename_i g1
        rw [← prem_iff (jget_st l0 hv)] at h
        show eC _ = 0
        rw [pwi_ok l0 v hv g1 h]; rfl
      · cases h
theorem back_rem_add (l : List BL) (hv : jst v) (h : (jed 2 z l v).2 = 0) : jed 1 (jget l v).1 l (jed 2 z l v).1 = (v, 0) := by
  have hst := jed_st (op := 2) (.inr (.inl rfl)) (x := vz) st_vz l hv
  rcases List.eq_nil_or_concat l with rfl | ⟨l0, nm, rfl⟩
  · rw [jed_nil2] at h; cases h
  · rw [List.concat_eq_append] at *
    have e : ∀ z, (jed 2 z (l0 ++ [nm]) v) = ((pwi (prem nm) l0 v).1, eC (pwi (prem nm) l0 v).2) := fun z => jed_rem z l0 nm v hv
    rw [e] at h hst ⊢
    rw [jed_add _ l0 nm _ hst]
    have h1 := eC0 h
    obtain ⟨g1, g2, g3⟩ := pwi_jget l0 v hv h1
    rw [jget_app, if_pos g1]
    show ((pwi _ l0 (pwi _ l0 v).1).1, eC (pwi _ l0 (pwi _ l0 v).1).2) = _
    rw [pwi_back (h := padd nm (jget [nm] (jget l0 v).1).1) l0 v hv h1 (prem_padd (jget_st l0 hv) g2)]; rfl
end
end Lg
set_option maxRecDepth 20000
set_option maxHeartbeats 4000000
namespace Lg
open Go Go.Proofs Go.RowKit
variable [GLay] 
theorem rplain_c (n : Int) (σ : List AO) (h0 : 0 ≤ n) (h1 : n ≤ 1000000000) : ACalls Tryz.prog 21 [.int .i64 n] σ (Ret (.str (itoaB n)) σ) := by
 refine ACalls_body Tryz.func21 rfl Tryz.ntmps21 (res1 Tryz.results21) (Nat.le_of_ble_eq_true rfl) (fun hcl hal => ?_)
 refine zw1 ?_
 refine zu1 ?_
 refine zt rfl (zc rfl (ritoa_c n _ (by omega) (by omega))) ?_
 refine zv1 ?_
 refine zrt ?_
 exact ResQ_10 rfl hcl trivial (Ret_of rfl)

theorem op_eqCer {P : Program} {σ : List AO} {e : Env} {o : Oper} {T T' : TypeId} {x : Operand} {ms : Array (String × TypeId)} {k : Int} (ho : o.op = .binOp .eql T x (.const .nilIface) T') (hu : P.underlying T = some (.interface ms)) (hx : opO e x = some (cerJ k)) : AOp P σ e o (.bool (decide (k = 0))) σ := by
  unfold cerJ at hx
  by_cases h : k = 0
  · rw [if_pos h] at hx; rw [decide_eq_true h]; exact op_eqINil ho hu hx
  · rw [if_neg h] at hx; rw [decide_eq_false h]; exact op_eqIN ho hu hx
theorem op_neCer {P : Program} {σ : List AO} {e : Env} {o : Oper} {T T' : TypeId} {x : Operand} {ms : Array (String × TypeId)} {k : Int} (ho : o.op = .binOp .neq T x (.const .nilIface) T') (hu : P.underlying T = some (.interface ms)) (hx : opO e x = some (cerJ k)) : AOp P σ e o (.bool (decide (¬ k = 0))) σ := by
  unfold cerJ at hx
  by_cases h : k = 0
  · rw [if_pos h] at hx; rw [decide_eq_false (fun z => z h)]; exact op_neINil ho hu hx
  · rw [if_neg h] at hx; rw [decide_eq_true h]; exact op_neIN ho hu hx
theorem cerJ_lt (n : Nat) (k : Int) : (cerJ k).lt n := by unfold cerJ; split <;> trivial
theorem rgetE_c (l : List BL) (f : Bool) (v : JV) (cs : List AV) (es : List (List AV)) (σ : List AO) (hl : ∀ nm ∈ l, nm.length ≤ 1000000) (hc : vcells v = cs) (he : es = srow l) (hb : jb v) : ACalls Tryz.prog 20 [.agg cs, .sl f 1 es] σ (Ret (.tup [.agg (vcells (jget l v).1), .bool (jget l v).2]) σ) := by
  subst he; exact rget_c l f v cs σ hl hc hb
theorem srowE_set (l : List BL) (nm nm' : BL) : (srow (l ++ [nm])).flatten.set l.length (.str (ba nm')) = (srow (l ++ [nm'])).flatten := by
  rw [srow_flat, srow_flat]; simp [List.set_append]
theorem ones_strB (l : List BL) : ones (l.map fun x => AV.str (ba x)) = true := by
  induction l with
  | nil => rfl
  | cons a r ih => exact ih
theorem nmB_y {u : JV} {nm : BL} (h4 : u.kind = 4) (hm : ba nm = ⟨#[45]⟩) : nmB u nm = Lib.itoa (u.l.length : Int) := by unfold nmB; rw [if_pos ⟨h4, ba_minus ▸ hm⟩]
theorem nmB_n {u : JV} {nm : BL} (h : ¬ (u.kind = 4 ∧ ba nm = ⟨#[45]⟩)) : nmB u nm = nm := by unfold nmB; rw [if_neg (fun z => h ⟨z.1, ba_minus.symm ▸ z.2⟩)]
theorem nmB_len {u : JV} {nm : BL} (hu : u.l.length ≤ 1000000) (hn : nm.length ≤ 1000000) : (nmB u nm).length ≤ 1000000 := by
  unfold nmB; split
  · have := itoa_size (n := (u.l.length : Int)) (by omega) (by omega)
    unfold itoaB at this; rw [ba_size] at this; omega
  · exact hn
theorem rem_gi {x v : JV} (l : List BL) (hv : jst v) (n : Nat) (hn : n = l.length) : decide ((jed 2 x l v).2 = 0) = ((jget l v).2 && decide ((n : Int) > 0)) := by
  have h := back_rem_iff (z := x) l hv
  have e : l ≠ [] ↔ (n : Int) > 0 := by rw [← List.length_pos_iff]; omega
  rw [e] at h
  cases hg : (jget l v).2 <;> simp [hg] at h ⊢ <;> simp [h]
theorem op_bneqE {P : Program} {σ : List AO} {e : Env} {o : Oper} {T T' : TypeId} {x y : Operand} {a b : Bool} (ho : o.op = .binOp .neq T x y T') (hu : P.underlying T = some .bool) (hx : opO e x = some (.bool a)) (hy : opO e y = some (.bool b)) (h : a = b) : AOp P σ e o (.bool false) σ := by
  subst h; exact op_bneqS ho hu (opO_eq hx) (opO_eq hy)
theorem editBack_c (s p t : ByteArray) (σ : List AO) (hp : p.size ≤ 140737488355328) : ACalls Tryz.prog 4 [.str s, .str p, .str t] σ (Ret (.bool true) σ) := by
 refine ACalls_body Tryz.func4 rfl Tryz.ntmps4 (res1 Tryz.results4) (Nat.le_of_ble_eq_true rfl) (fun hcl hal => ?_)
 have hva := rValue_ok s
 have hxa := rValue_ok t
 have hl : ∀ n ∈ (ptQ p).1, n.length ≤ 1000000 := ptQ_l p
 have hll := ptQ_n2 p
 refine zw1 ?_
 refine zsr ?_
 refine zt rfl (zc rfl (up7_c _)) ?_
 refine zv1 ?_
 refine zu1 ?_
 refine zt rfl (zc rfl (value_c s _)) ?_
 generalize (rValue s).1 = v at hva ⊢
 generalize (rValue s).2 = ok at hva ⊢
 rw [vcells_eq v]
 refine zv6 ?_
 refine zu1 ?_
 refine zt rfl (zc rfl (ptrL_c p _ hp)) ?_
 generalize (ptQ p).1 = l at hl hll ⊢
 generalize (ptQ p).2 = ok2
 have hsl0 := srow_len l
 refine zv5 ?_
 refine zu1 ?_
 refine zt rfl (zc rfl (value_c t _)) ?_
 generalize (rValue t).1 = x at hxa ⊢
 generalize (rValue t).2 = ok3 at hxa ⊢
 rw [vcells_eq x]
 refine zv6 ?_
 refine AWp_seq ?_
 refine zu3 ?_
 refine zsp 58 rfl (fun h1 => ?_) fun h1 => ?_
 ·rw [h1]; replace h1 := zcl h1
  refine zv7 ?_
  refine AWp_condT rfl ?_
  refine zw2 ?_
  refine zrt ?_
  exact ResQ_1 rfl hcl (by simp [AV.lt, AV.ltL]) ⟨rfl, rfl⟩
 ·rw [h1]; replace h1 := zcl h1
  refine zg4 ?_
  refine zsp 62 rfl (fun h2 => ?_) fun h2 => ?_
  ·rw [h2]; replace h2 := zcl h2
   refine zv3 ?_
   refine AWp_condT rfl ?_
   refine zw2 ?_
   refine zrt ?_
   exact ResQ_1 rfl hcl (by simp [AV.lt, AV.ltL]) ⟨rfl, rfl⟩
  ·rw [h2]; replace h2 := zcl h2
   refine zv3 ?_
   refine AWp_cond rfl (fun h3 => ?_) (fun h3 => ?_)
   ·(try rw [h3]); replace h3 := zcl h3
    refine zw2 ?_
    refine zrt ?_
    exact ResQ_1 rfl hcl (by simp [AV.lt, AV.ltL]) ⟨rfl, rfl⟩
   ·(try rw [h3]); replace h3 := zcl h3
    obtain ⟨hmy, hjv, hsv⟩ : jmay v ∧ jb v ∧ jsize v ≤ 2002 := by
     rcases hva with ⟨h, _⟩ | ⟨_, h⟩
     ·exfalso; omega
     ·exact h
    have hkb := may_kb 2002 v hsv hmy
    have hmv := may_st hmy
    have hsv0 : jsize v ≤ 10000 := by omega
    obtain ⟨hmx, hjx⟩ : jmay x ∧ jb x := by
     rcases hxa with ⟨h, _⟩ | ⟨_, h⟩
     ·exfalso; omega
     ·exact ⟨h.1, h.2.1⟩
    have hmx := may_st hmx
    have hj1 := jed_jb (op := 1) (Or.inl rfl) hjx l hl hsv0 hjv hmv
    have hj2 := jed_jb (op := 2) (Or.inr (Or.inl rfl)) hjx l hl hsv0 hjv hmv
    have hj3 := jed_jb (op := 3) (Or.inr (Or.inr rfl)) hjx l hl hsv0 hjv hmv
    refine AWp_skip ?_
    refine AWp_seq ?_
    refine AWp_heap (σ' := σ ++ [.box [.int .i64 v.kind, .bool v.b, .bool v.n.neg, .str v.n.digits, .int .i64 v.n.exp, .str v.s, .sl false 8 (lcells v.l), .sl false 9 (mcells v.m)], .box [.int .i64 x.kind, .bool x.b, .bool x.n.neg, .str x.n.digits, .int .i64 x.n.exp, .str x.s, .sl false 8 (lcells x.l), .sl false 9 (mcells x.m)]]) rfl ?_
    refine AWp_regL ?_
    refine zg1 ?_
    refine zt rfl (zc rfl (vcells_eq v ▸ rsh_any 2002 v _ hsv hjv hkb (by omega))) ?_
    refine zv1 ?_
    refine AWp_seq ?_
    refine AWp_heap (σ' := σ ++ [.box [.int .i64 v.kind, .bool v.b, .bool v.n.neg, .str v.n.digits, .int .i64 v.n.exp, .str v.s, .sl false 8 (lcells v.l), .sl false 9 (mcells v.m)], .box [.int .i64 x.kind, .bool x.b, .bool x.n.neg, .str x.n.digits, .int .i64 x.n.exp, .str x.s, .sl false 8 (lcells x.l), .sl false 9 (mcells x.m)]]) rfl ?_
    refine AWp_regL ?_
    refine zg3 ?_
    refine zt rfl (zc rfl (eaddJ_c x _ (vcells_eq x) l hl hll _ v _ _ (vcells_eq v) hjv hmv)) ?_
    rw [vcells_eq (jed 1 x l v).1]
    refine zv6 ?_
    refine AWp_seq ?_
    refine AWp_heap (σ' := σ ++ [.box [.int .i64 v.kind, .bool v.b, .bool v.n.neg, .str v.n.digits, .int .i64 v.n.exp, .str v.s, .sl false 8 (lcells v.l), .sl false 9 (mcells v.m)], .box [.int .i64 x.kind, .bool x.b, .bool x.n.neg, .str x.n.digits, .int .i64 x.n.exp, .str x.s, .sl false 8 (lcells x.l), .sl false 9 (mcells x.m)], .box [.int .i64 (jed 1 x l v).1.kind, .bool (jed 1 x l v).1.b, .bool (jed 1 x l v).1.n.neg, .str (jed 1 x l v).1.n.digits, .int .i64 (jed 1 x l v).1.n.exp, .str (jed 1 x l v).1.s, .sl false 8 (lcells (jed 1 x l v).1.l), .sl false 9 (mcells (jed 1 x l v).1.m)]]) rfl ?_
    refine AWp_regL ?_
    refine zg3 ?_
    refine zt rfl (zc rfl (erepJ_c x _ (vcells_eq x) l hl _ v _ _ (vcells_eq v) hjv hmv)) ?_
    rw [vcells_eq (jed 3 x l v).1]
    refine zv6 ?_
    refine AWp_joinT (ι := Unit) (fun b => True) (fun b => ⟨[], [(7, .bool true), (8, .ptr (σ.length + 0) 0), (10, .sl false 1 (srow l)), (12, .ptr (σ.length + 1) 0), (14, .str (ba (jtx v))), (15, .ptr (σ.length + 2) 0), (16, cerJ (jed 1 x l v).2)]⟩) (fun b => σ ++ [.box [.int .i64 v.kind, .bool v.b, .bool v.n.neg, .str v.n.digits, .int .i64 v.n.exp, .str v.s, .sl false 8 (lcells v.l), .sl false 9 (mcells v.m)], .box [.int .i64 x.kind, .bool x.b, .bool x.n.neg, .str x.n.digits, .int .i64 x.n.exp, .str x.s, .sl false 8 (lcells x.l), .sl false 9 (mcells x.m)], .box [.int .i64 (jed 1 x l v).1.kind, .bool (jed 1 x l v).1.b, .bool (jed 1 x l v).1.n.neg, .str (jed 1 x l v).1.n.digits, .int .i64 (jed 1 x l v).1.n.exp, .str (jed 1 x l v).1.s, .sl false 8 (lcells (jed 1 x l v).1.l), .sl false 9 (mcells (jed 1 x l v).1.m)], .box [.int .i64 (jed 3 x l v).1.kind, .bool (jed 3 x l v).1.b, .bool (jed 3 x l v).1.n.neg, .str (jed 3 x l v).1.n.digits, .int .i64 (jed 3 x l v).1.n.exp, .str (jed 3 x l v).1.s, .sl false 8 (lcells (jed 3 x l v).1.l), .sl false 9 (mcells (jed 3 x l v).1.m)]]) ?_ (fun b hj => ?_)
    ·skip
     refine zu1 ?_
     refine zt rfl (op_eqCer rfl Tryz.underlying35 rfl) ?_
     refine zon ?_
     refine AWp_cond rfl (fun h4 => ?_) (fun h4 => ?_)
     ·(try rw [h4]); replace h4 := zcl h4
      have hr3 : (jget l (jed 3 x l v).1).1 = x ∧ (jget l (jed 3 x l v).1).2 = true := by rw [back_rep (x := x) l hmv h4]; exact ⟨rfl, rfl⟩
      refine AWp_seq ?_
      refine AWp_heap (σ' := σ ++ [.box [.int .i64 v.kind, .bool v.b, .bool v.n.neg, .str v.n.digits, .int .i64 v.n.exp, .str v.s, .sl false 8 (lcells v.l), .sl false 9 (mcells v.m)], .box [.int .i64 x.kind, .bool x.b, .bool x.n.neg, .str x.n.digits, .int .i64 x.n.exp, .str x.s, .sl false 8 (lcells x.l), .sl false 9 (mcells x.m)], .box [.int .i64 (jed 1 x l v).1.kind, .bool (jed 1 x l v).1.b, .bool (jed 1 x l v).1.n.neg, .str (jed 1 x l v).1.n.digits, .int .i64 (jed 1 x l v).1.n.exp, .str (jed 1 x l v).1.s, .sl false 8 (lcells (jed 1 x l v).1.l), .sl false 9 (mcells (jed 1 x l v).1.m)], .box [.int .i64 (jed 3 x l v).1.kind, .bool (jed 3 x l v).1.b, .bool (jed 3 x l v).1.n.neg, .str (jed 3 x l v).1.n.digits, .int .i64 (jed 3 x l v).1.n.exp, .str (jed 3 x l v).1.s, .sl false 8 (lcells (jed 3 x l v).1.l), .sl false 9 (mcells (jed 3 x l v).1.m)]]) rfl ?_
      refine AWp_regL ?_
      refine zg2 ?_
      refine zt rfl (zc rfl (rget_c l _ (jed 3 x l v).1 _ _ hl (vcells_eq _) hj3.1)) ?_
      rw [hr3.1, hr3.2, vcells_eq x]
      refine zv6 ?_
      refine AWp_seq ?_
      refine AWp_heap (σ' := σ ++ [.box [.int .i64 v.kind, .bool v.b, .bool v.n.neg, .str v.n.digits, .int .i64 v.n.exp, .str v.s, .sl false 8 (lcells v.l), .sl false 9 (mcells v.m)], .box [.int .i64 x.kind, .bool x.b, .bool x.n.neg, .str x.n.digits, .int .i64 x.n.exp, .str x.s, .sl false 8 (lcells x.l), .sl false 9 (mcells x.m)], .box [.int .i64 (jed 1 x l v).1.kind, .bool (jed 1 x l v).1.b, .bool (jed 1 x l v).1.n.neg, .str (jed 1 x l v).1.n.digits, .int .i64 (jed 1 x l v).1.n.exp, .str (jed 1 x l v).1.s, .sl false 8 (lcells (jed 1 x l v).1.l), .sl false 9 (mcells (jed 1 x l v).1.m)], .box [.int .i64 (jed 3 x l v).1.kind, .bool (jed 3 x l v).1.b, .bool (jed 3 x l v).1.n.neg, .str (jed 3 x l v).1.n.digits, .int .i64 (jed 3 x l v).1.n.exp, .str (jed 3 x l v).1.s, .sl false 8 (lcells (jed 3 x l v).1.l), .sl false 9 (mcells (jed 3 x l v).1.m)], .box [.int .i64 x.kind, .bool x.b, .bool x.n.neg, .str x.n.digits, .int .i64 x.n.exp, .str x.s, .sl false 8 (lcells x.l), .sl false 9 (mcells x.m)]]) rfl ?_
      refine AWp_regL ?_
      refine zg2 ?_
      refine zt rfl (zc rfl (rsameQ_c x _ _ (vcells_eq x) hjx)) ?_
      refine zv1 ?_
      refine zw6 ?_
      refine AWp_condF rfl ?_
      refine AWp_skip ?_
      refine ⟨(), σ.length + 4, trivial, by simp, ⟨rfl, rfl, rfl, rfl, rfl, rfl, rfl, rfl, trivial⟩, closed_own 4 hcl ?_, ?_, ?_⟩
      ·simp [ownLt, AO.cells, AV.ltL, AV.lt]
      ·simp [ltE, AV.lt, AV.ltL, cerJ_lt]
      ·exact take_own 4
     ·(try rw [h4]); replace h4 := zcl h4
      refine AWp_skip ?_
      refine ⟨(), σ.length + 4, trivial, by simp, ⟨rfl, rfl, rfl, rfl, rfl, rfl, rfl, rfl, trivial⟩, closed_own 4 hcl ?_, ?_, ?_⟩
      ·simp [ownLt, AO.cells, AV.ltL, AV.lt]
      ·simp [ltE, AV.lt, AV.ltL, cerJ_lt]
      ·exact take_own 4
    ·skip
     refine AWp_joinT (ι := Unit) (fun b => True) (fun b => ⟨[], [(7, .bool true), (8, .ptr (σ.length + 0) 0), (10, .sl false 1 (srow l)), (12, .ptr (σ.length + 1) 0), (14, .str (ba (jtx v)))]⟩) (fun b => σ ++ [.box [.int .i64 v.kind, .bool v.b, .bool v.n.neg, .str v.n.digits, .int .i64 v.n.exp, .str v.s, .sl false 8 (lcells v.l), .sl false 9 (mcells v.m)], .box [.int .i64 x.kind, .bool x.b, .bool x.n.neg, .str x.n.digits, .int .i64 x.n.exp, .str x.s, .sl false 8 (lcells x.l), .sl false 9 (mcells x.m)], .box [.int .i64 (jed 1 x l v).1.kind, .bool (jed 1 x l v).1.b, .bool (jed 1 x l v).1.n.neg, .str (jed 1 x l v).1.n.digits, .int .i64 (jed 1 x l v).1.n.exp, .str (jed 1 x l v).1.s, .sl false 8 (lcells (jed 1 x l v).1.l), .sl false 9 (mcells (jed 1 x l v).1.m)], .box [.int .i64 (jed 3 x l v).1.kind, .bool (jed 3 x l v).1.b, .bool (jed 3 x l v).1.n.neg, .str (jed 3 x l v).1.n.digits, .int .i64 (jed 3 x l v).1.n.exp, .str (jed 3 x l v).1.s, .sl false 8 (lcells (jed 3 x l v).1.l), .sl false 9 (mcells (jed 3 x l v).1.m)]]) ?_ (fun b hj => ?_)
     ·skip
      refine zu1 ?_
      refine zt rfl (op_eqCer rfl Tryz.underlying35 rfl) ?_
      refine zg1 ?_
      refine zsp 102 rfl (fun h5 => ?_) fun h5 => ?_
      ·rw [h5]; replace h5 := zcl h5
       refine zv4 ?_
       refine AWp_cond rfl (fun h6 => ?_) (fun h6 => ?_)
       ·(try rw [h6]); replace h6 := zcl h6
        obtain ⟨l0, nm, rfl⟩ : ∃ l0 nm, l = l0 ++ [nm] := by
         rcases List.eq_nil_or_concat l with e | ⟨a, b, e⟩
         ·subst e; exact absurd h6 (by simp [srow])
         ·exact ⟨a, b, by rw [e, List.concat_eq_append]⟩
        have hsl := srowE_len l0 nm
        have hl0 : ∀ n ∈ l0, n.length ≤ 1000000 := fun n h => hl n (List.mem_append_left _ h)
        have hju := jget_jb l0 hjv
        have hul := ((jb_eq _).1 hju).2.2.1
        have hlu := lcells_length (jget l0 v).1.l
        have hb1a : (jget (l0 ++ [nmB (jget l0 v).1 nm]) (jed 1 x (l0 ++ [nm]) v).1).1 = x := by rw [back_add (x := x) hmv hul h5]
        have hb1b : (jget (l0 ++ [nmB (jget l0 v).1 nm]) (jed 1 x (l0 ++ [nm]) v).1).2 = true := by rw [back_add (x := x) hmv hul h5]
        have hln : l0.length + 1 ≤ 1000000 := by rw [List.length_append] at hll; exact hll
        have hnb := nmB_len (u := (jget l0 v).1) hul (hl nm (by simp))
        have hlb : ∀ n ∈ (l0 ++ [nmB (jget l0 v).1 nm]), n.length ≤ 1000000 := fun n h => by
         rcases List.mem_append.1 h with h | h
         ·exact hl0 n h
         ·rw [List.mem_singleton.1 h]; exact hnb
        have hllb : (l0 ++ [nmB (jget l0 v).1 nm]).length ≤ 1000000 := by rw [List.length_append]; exact hln
        have hst1 := jed_st (op := 1) (.inl rfl) hmx (l0 ++ [nm]) hmv
        refine AWp_seq ?_
        refine AWp_drawL #[0, 0, 0, 4, 12, 30, 63, 127, 255, 255, 0, 1535, 4095] Tryz.mixed (by decide +kernel) (by decide +kernel) ?_
        refine zp1 ?_
        refine zd4 ?_
        refine yA rfl rfl (fun _ => (by first | exact op_sliceSl _ _ rfl Tryz.underlying31 Tryz.sizeOf9 rfl (by first | exact ⟨_, rfl⟩ | rfl) (by first | exact ⟨_, rfl⟩ | rfl) (by omega) (by omega) (by omega) | exact op_sliceArr _ _ rfl Tryz.underlying31 Tryz.sizeOf9 rfl GET (by first | exact ⟨_, rfl⟩ | rfl) (by first | exact ⟨_, rfl⟩ | rfl) (by omega) (by omega) (by omega))) ?_
        refine yP rfl rfl (zc rfl (rgetE_c l0 _ v _ _ _ hl0 (vcells_eq v) (srowE_cut (by omega)) hjv)) (trivial) ?_
        rw [vcells_eq (jget l0 v).1]
        refine zd3 ?_
        refine yE rfl rfl (zoa) (⟨.inr (by rw [← vcells_eq (jget l0 v).1]; exact zc rfl (rgetE_c l0 _ v _ _ _ hl0 (vcells_eq v) (srowE_cut (by omega)) hjv)), ⟨.inr zoa, trivial⟩⟩) (trivial) ?_
        refine yEN rfl rfl rfl (zoa) (⟨.inl rfl, ⟨.inl rfl, trivial⟩⟩) (⟨rfl, trivial⟩) ?_
        refine zd1 ?_
        refine RP.nil rfl ?_
        refine AWp_seq ?_
        refine AWp_heap (σ' := σ ++ [.box [.int .i64 v.kind, .bool v.b, .bool v.n.neg, .str v.n.digits, .int .i64 v.n.exp, .str v.s, .sl false 8 (lcells v.l), .sl false 9 (mcells v.m)], .box [.int .i64 x.kind, .bool x.b, .bool x.n.neg, .str x.n.digits, .int .i64 x.n.exp, .str x.s, .sl false 8 (lcells x.l), .sl false 9 (mcells x.m)], .box [.int .i64 (jed 1 x (l0 ++ [nm]) v).1.kind, .bool (jed 1 x (l0 ++ [nm]) v).1.b, .bool (jed 1 x (l0 ++ [nm]) v).1.n.neg, .str (jed 1 x (l0 ++ [nm]) v).1.n.digits, .int .i64 (jed 1 x (l0 ++ [nm]) v).1.n.exp, .str (jed 1 x (l0 ++ [nm]) v).1.s, .sl false 8 (lcells (jed 1 x (l0 ++ [nm]) v).1.l), .sl false 9 (mcells (jed 1 x (l0 ++ [nm]) v).1.m)], .box [.int .i64 (jed 3 x (l0 ++ [nm]) v).1.kind, .bool (jed 3 x (l0 ++ [nm]) v).1.b, .bool (jed 3 x (l0 ++ [nm]) v).1.n.neg, .str (jed 3 x (l0 ++ [nm]) v).1.n.digits, .int .i64 (jed 3 x (l0 ++ [nm]) v).1.n.exp, .str (jed 3 x (l0 ++ [nm]) v).1.s, .sl false 8 (lcells (jed 3 x (l0 ++ [nm]) v).1.l), .sl false 9 (mcells (jed 3 x (l0 ++ [nm]) v).1.m)], .box [.int .i64 (jget l0 v).1.kind, .bool (jget l0 v).1.b, .bool (jget l0 v).1.n.neg, .str (jget l0 v).1.n.digits, .int .i64 (jget l0 v).1.n.exp, .str (jget l0 v).1.s, .sl false 8 (lcells (jget l0 v).1.l), .sl false 9 (mcells (jget l0 v).1.m)]]) rfl ?_
        refine AWp_regL ?_
        refine zg2 ?_
        refine zt rfl (zc rfl (rget_c (l0 ++ [nm]) _ v _ _ hl (vcells_eq v) hjv)) ?_
        rw [vcells_eq (jget (l0 ++ [nm]) v).1]
        refine zv6 ?_
        refine AWp_seq ?_
        refine AWp_heap (σ' := σ ++ [.box [.int .i64 v.kind, .bool v.b, .bool v.n.neg, .str v.n.digits, .int .i64 v.n.exp, .str v.s, .sl false 8 (lcells v.l), .sl false 9 (mcells v.m)], .box [.int .i64 x.kind, .bool x.b, .bool x.n.neg, .str x.n.digits, .int .i64 x.n.exp, .str x.s, .sl false 8 (lcells x.l), .sl false 9 (mcells x.m)], .box [.int .i64 (jed 1 x (l0 ++ [nm]) v).1.kind, .bool (jed 1 x (l0 ++ [nm]) v).1.b, .bool (jed 1 x (l0 ++ [nm]) v).1.n.neg, .str (jed 1 x (l0 ++ [nm]) v).1.n.digits, .int .i64 (jed 1 x (l0 ++ [nm]) v).1.n.exp, .str (jed 1 x (l0 ++ [nm]) v).1.s, .sl false 8 (lcells (jed 1 x (l0 ++ [nm]) v).1.l), .sl false 9 (mcells (jed 1 x (l0 ++ [nm]) v).1.m)], .box [.int .i64 (jed 3 x (l0 ++ [nm]) v).1.kind, .bool (jed 3 x (l0 ++ [nm]) v).1.b, .bool (jed 3 x (l0 ++ [nm]) v).1.n.neg, .str (jed 3 x (l0 ++ [nm]) v).1.n.digits, .int .i64 (jed 3 x (l0 ++ [nm]) v).1.n.exp, .str (jed 3 x (l0 ++ [nm]) v).1.s, .sl false 8 (lcells (jed 3 x (l0 ++ [nm]) v).1.l), .sl false 9 (mcells (jed 3 x (l0 ++ [nm]) v).1.m)], .box [.int .i64 (jget l0 v).1.kind, .bool (jget l0 v).1.b, .bool (jget l0 v).1.n.neg, .str (jget l0 v).1.n.digits, .int .i64 (jget l0 v).1.n.exp, .str (jget l0 v).1.s, .sl false 8 (lcells (jget l0 v).1.l), .sl false 9 (mcells (jget l0 v).1.m)], .box [.int .i64 (jget (l0 ++ [nm]) v).1.kind, .bool (jget (l0 ++ [nm]) v).1.b, .bool (jget (l0 ++ [nm]) v).1.n.neg, .str (jget (l0 ++ [nm]) v).1.n.digits, .int .i64 (jget (l0 ++ [nm]) v).1.n.exp, .str (jget (l0 ++ [nm]) v).1.s, .sl false 8 (lcells (jget (l0 ++ [nm]) v).1.l), .sl false 9 (mcells (jget (l0 ++ [nm]) v).1.m)]]) rfl ?_
        refine AWp_regL ?_
        refine zt rfl (op_buildSlice0 (sz := 1) rfl Tryz.underlying31 Tryz.sizeOf9) ?_
        refine zg1 ?_
        refine zt rfl (op_appendNewT rfl rfl (sz := 1) (m := l0.length + 1) (cs := (srow (l0 ++ [nm])).flatten) rfl (.inr ⟨_, rfl⟩) Tryz.underlying31 Tryz.underlying31 Tryz.type9 rfl rfl rfl (by decide) (.inr rfl) (by rw [← hsl]; rfl) rfl (by rw [srow_flat]; exact ones_strB _) (by show (l0.length + 1) * 16 ≤ _; omega) (by omega) (by rw [srow_flat, List.length_map, List.length_append]; simp)) ?_
        refine zv1 ?_
        refine AWp_join (ι := Unit) (fun b => True) (fun b => ⟨[], [(7, .bool true), (8, .ptr (σ.length + 0) 0), (10, .sl false 1 (srow (l0 ++ [nm]))), (12, .ptr (σ.length + 1) 0), (14, .str (ba (jtx v))), (15, .ptr (σ.length + 2) 0), (22, .ptr (σ.length + 4) 0), (25, .bool (jget (l0 ++ [nm]) v).2), (26, .arr (σ.length + 6) 0 1 0 (l0.length + 1))]⟩) (fun b => σ ++ [.box [.int .i64 v.kind, .bool v.b, .bool v.n.neg, .str v.n.digits, .int .i64 v.n.exp, .str v.s, .sl false 8 (lcells v.l), .sl false 9 (mcells v.m)], .box [.int .i64 x.kind, .bool x.b, .bool x.n.neg, .str x.n.digits, .int .i64 x.n.exp, .str x.s, .sl false 8 (lcells x.l), .sl false 9 (mcells x.m)], .box [.int .i64 (jed 1 x (l0 ++ [nm]) v).1.kind, .bool (jed 1 x (l0 ++ [nm]) v).1.b, .bool (jed 1 x (l0 ++ [nm]) v).1.n.neg, .str (jed 1 x (l0 ++ [nm]) v).1.n.digits, .int .i64 (jed 1 x (l0 ++ [nm]) v).1.n.exp, .str (jed 1 x (l0 ++ [nm]) v).1.s, .sl false 8 (lcells (jed 1 x (l0 ++ [nm]) v).1.l), .sl false 9 (mcells (jed 1 x (l0 ++ [nm]) v).1.m)], .box [.int .i64 (jed 3 x (l0 ++ [nm]) v).1.kind, .bool (jed 3 x (l0 ++ [nm]) v).1.b, .bool (jed 3 x (l0 ++ [nm]) v).1.n.neg, .str (jed 3 x (l0 ++ [nm]) v).1.n.digits, .int .i64 (jed 3 x (l0 ++ [nm]) v).1.n.exp, .str (jed 3 x (l0 ++ [nm]) v).1.s, .sl false 8 (lcells (jed 3 x (l0 ++ [nm]) v).1.l), .sl false 9 (mcells (jed 3 x (l0 ++ [nm]) v).1.m)], .box [.int .i64 (jget l0 v).1.kind, .bool (jget l0 v).1.b, .bool (jget l0 v).1.n.neg, .str (jget l0 v).1.n.digits, .int .i64 (jget l0 v).1.n.exp, .str (jget l0 v).1.s, .sl false 8 (lcells (jget l0 v).1.l), .sl false 9 (mcells (jget l0 v).1.m)], .box [.int .i64 (jget (l0 ++ [nm]) v).1.kind, .bool (jget (l0 ++ [nm]) v).1.b, .bool (jget (l0 ++ [nm]) v).1.n.neg, .str (jget (l0 ++ [nm]) v).1.n.digits, .int .i64 (jget (l0 ++ [nm]) v).1.n.exp, .str (jget (l0 ++ [nm]) v).1.s, .sl false 8 (lcells (jget (l0 ++ [nm]) v).1.l), .sl false 9 (mcells (jget (l0 ++ [nm]) v).1.m)], .arr 1 0 (srow (l0 ++ [nmB (jget l0 v).1 nm])).flatten]) ?_ (fun b hj => ?_)
        ·skip
         refine zu4 ?_
         refine zsp 129 rfl (fun h7 => ?_) fun h7 => ?_
         ·rw [h7]; replace h7 := zcl h7
          refine zg4 ?_
          refine ztG rfl rfl (op_indexAddr rfl Tryz.underlying31 Tryz.sizeOf9 rfl rfl (by omega) ((by rw [hsl, show ((((l0.length + 1 : Nat) : Int) - 1).toNat) = l0.length by omega]; exact srowE_get l0 nm))) ?_
          refine zv3 ?_
          refine AWp_cond rfl (fun h8 => ?_) (fun h8 => ?_)
          ·(try rw [h8]); replace h8 := zcl h8
           refine AWp_regL ?_
           refine zg2 ?_
           refine zt rfl (op_lenS rfl rfl Tryz.underlying31 rfl rfl ⟨_, _, (get_own 6).trans rfl⟩) ?_
           refine zg4 ?_
           refine zt rfl (zc rfl (rplain_c _ _ (by omega) (by omega))) ?_
           rw [lcells_length]
           refine zt rfl (op_indexAddrAO (j := 6) rfl Tryz.underlying31 Tryz.sizeOf9 rfl rfl (by omega) (by omega) rfl) ?_
           refine ztN rfl rfl (op_storeEl (j := 6) (g := 0) (sz := 1) (i := l0.length) rfl Tryz.sizeOf9 rfl rfl (by omega) rfl (by rw [srow_flat, List.length_map, List.length_append]; simp)) ?_
           refine zon ?_
           refine ⟨(), trivial, ⟨rfl, rfl, rfl, rfl, rfl, rfl, rfl, rfl, rfl, rfl, trivial⟩, ?_⟩
           rw [nmB_y h7 h8, ← srowE_set l0 nm (Lib.itoa ((jget l0 v).1.l.length : Int))]; rfl
          ·(try rw [h8]); replace h8 := zcl h8
           refine AWp_skip ?_
           refine ⟨(), trivial, ⟨rfl, rfl, rfl, rfl, rfl, rfl, rfl, rfl, rfl, rfl, trivial⟩, ?_⟩
           rw [nmB_n (by first | exact fun z => h7 z.1 | exact fun z => h8 z.2)]; rfl
         ·rw [h7]; replace h7 := zcl h7
          refine zv8 ?_
          refine AWp_condF rfl ?_
          refine AWp_skip ?_
          refine ⟨(), trivial, ⟨rfl, rfl, rfl, rfl, rfl, rfl, rfl, rfl, rfl, rfl, trivial⟩, ?_⟩
          rw [nmB_n (by first | exact fun z => h7 z.1 | exact fun z => h8 z.2)]; rfl
        ·skip
         refine AWp_seq ?_
         refine AWp_freezeAO 26 6 0 1 (l0.length + 1) (srow (l0 ++ [nmB (jget l0 v).1 nm])) rfl rfl (srow_el _) (by rw [srow_len, List.length_append]; rfl) (by decide) ?_ (by decide)
         refine AWp_heap (σ' := σ ++ [.box [.int .i64 v.kind, .bool v.b, .bool v.n.neg, .str v.n.digits, .int .i64 v.n.exp, .str v.s, .sl false 8 (lcells v.l), .sl false 9 (mcells v.m)], .box [.int .i64 x.kind, .bool x.b, .bool x.n.neg, .str x.n.digits, .int .i64 x.n.exp, .str x.s, .sl false 8 (lcells x.l), .sl false 9 (mcells x.m)], .box [.int .i64 (jed 1 x (l0 ++ [nm]) v).1.kind, .bool (jed 1 x (l0 ++ [nm]) v).1.b, .bool (jed 1 x (l0 ++ [nm]) v).1.n.neg, .str (jed 1 x (l0 ++ [nm]) v).1.n.digits, .int .i64 (jed 1 x (l0 ++ [nm]) v).1.n.exp, .str (jed 1 x (l0 ++ [nm]) v).1.s, .sl false 8 (lcells (jed 1 x (l0 ++ [nm]) v).1.l), .sl false 9 (mcells (jed 1 x (l0 ++ [nm]) v).1.m)], .box [.int .i64 (jed 3 x (l0 ++ [nm]) v).1.kind, .bool (jed 3 x (l0 ++ [nm]) v).1.b, .bool (jed 3 x (l0 ++ [nm]) v).1.n.neg, .str (jed 3 x (l0 ++ [nm]) v).1.n.digits, .int .i64 (jed 3 x (l0 ++ [nm]) v).1.n.exp, .str (jed 3 x (l0 ++ [nm]) v).1.s, .sl false 8 (lcells (jed 3 x (l0 ++ [nm]) v).1.l), .sl false 9 (mcells (jed 3 x (l0 ++ [nm]) v).1.m)], .box [.int .i64 (jget l0 v).1.kind, .bool (jget l0 v).1.b, .bool (jget l0 v).1.n.neg, .str (jget l0 v).1.n.digits, .int .i64 (jget l0 v).1.n.exp, .str (jget l0 v).1.s, .sl false 8 (lcells (jget l0 v).1.l), .sl false 9 (mcells (jget l0 v).1.m)], .box [.int .i64 (jget (l0 ++ [nm]) v).1.kind, .bool (jget (l0 ++ [nm]) v).1.b, .bool (jget (l0 ++ [nm]) v).1.n.neg, .str (jget (l0 ++ [nm]) v).1.n.digits, .int .i64 (jget (l0 ++ [nm]) v).1.n.exp, .str (jget (l0 ++ [nm]) v).1.s, .sl false 8 (lcells (jget (l0 ++ [nm]) v).1.l), .sl false 9 (mcells (jget (l0 ++ [nm]) v).1.m)], .dead]) rfl ?_
         refine AWp_regL ?_
         refine zg2 ?_
         refine zt rfl (zc rfl (rget_c (l0 ++ [nmB (jget l0 v).1 nm]) _ (jed 1 x (l0 ++ [nm]) v).1 _ _ hlb (vcells_eq _) hj1.1)) ?_
         rw [hb1a, hb1b, vcells_eq x]
         refine zv6 ?_
         refine AWp_seq ?_
         refine AWp_heap (σ' := σ ++ [.box [.int .i64 v.kind, .bool v.b, .bool v.n.neg, .str v.n.digits, .int .i64 v.n.exp, .str v.s, .sl false 8 (lcells v.l), .sl false 9 (mcells v.m)], .box [.int .i64 x.kind, .bool x.b, .bool x.n.neg, .str x.n.digits, .int .i64 x.n.exp, .str x.s, .sl false 8 (lcells x.l), .sl false 9 (mcells x.m)], .box [.int .i64 (jed 1 x (l0 ++ [nm]) v).1.kind, .bool (jed 1 x (l0 ++ [nm]) v).1.b, .bool (jed 1 x (l0 ++ [nm]) v).1.n.neg, .str (jed 1 x (l0 ++ [nm]) v).1.n.digits, .int .i64 (jed 1 x (l0 ++ [nm]) v).1.n.exp, .str (jed 1 x (l0 ++ [nm]) v).1.s, .sl false 8 (lcells (jed 1 x (l0 ++ [nm]) v).1.l), .sl false 9 (mcells (jed 1 x (l0 ++ [nm]) v).1.m)], .box [.int .i64 (jed 3 x (l0 ++ [nm]) v).1.kind, .bool (jed 3 x (l0 ++ [nm]) v).1.b, .bool (jed 3 x (l0 ++ [nm]) v).1.n.neg, .str (jed 3 x (l0 ++ [nm]) v).1.n.digits, .int .i64 (jed 3 x (l0 ++ [nm]) v).1.n.exp, .str (jed 3 x (l0 ++ [nm]) v).1.s, .sl false 8 (lcells (jed 3 x (l0 ++ [nm]) v).1.l), .sl false 9 (mcells (jed 3 x (l0 ++ [nm]) v).1.m)], .box [.int .i64 (jget l0 v).1.kind, .bool (jget l0 v).1.b, .bool (jget l0 v).1.n.neg, .str (jget l0 v).1.n.digits, .int .i64 (jget l0 v).1.n.exp, .str (jget l0 v).1.s, .sl false 8 (lcells (jget l0 v).1.l), .sl false 9 (mcells (jget l0 v).1.m)], .box [.int .i64 (jget (l0 ++ [nm]) v).1.kind, .bool (jget (l0 ++ [nm]) v).1.b, .bool (jget (l0 ++ [nm]) v).1.n.neg, .str (jget (l0 ++ [nm]) v).1.n.digits, .int .i64 (jget (l0 ++ [nm]) v).1.n.exp, .str (jget (l0 ++ [nm]) v).1.s, .sl false 8 (lcells (jget (l0 ++ [nm]) v).1.l), .sl false 9 (mcells (jget (l0 ++ [nm]) v).1.m)], .dead, .box [.int .i64 x.kind, .bool x.b, .bool x.n.neg, .str x.n.digits, .int .i64 x.n.exp, .str x.s, .sl false 8 (lcells x.l), .sl false 9 (mcells x.m)]]) rfl ?_
         refine AWp_regL ?_
         refine zg2 ?_
         refine zt rfl (zc rfl (rsameQ_c x _ _ (vcells_eq x) hjx)) ?_
         refine zv1 ?_
         refine AWp_seq ?_
         refine zw6 ?_
         refine AWp_condF rfl ?_
         refine AWp_skip ?_
         refine zu4 ?_
         refine zsp 165 rfl (fun h9 => ?_) fun h9 => ?_
         ·rw [h9]; replace h9 := zcl h9
          have hb2 := back_add_rem (z := x) hmv hmx hul h5 (.inl h9)
          have hb2a := congrArg Prod.fst hb2
          have hb2b := congrArg Prod.snd hb2
          simp only at hb2a hb2b
          refine zv3 ?_
          refine AWp_condT rfl ?_
          refine zu2 ?_
          refine zt rfl (zc rfl (eremJ_c x (l0 ++ [nmB (jget l0 v).1 nm]) hlb hllb _ (jed 1 x (l0 ++ [nm]) v).1 _ _ (vcells_eq _) hj1.1 hst1)) ?_
          rw [hb2a, hb2b, vcells_eq v]
          refine zv6 ?_
          refine AWp_seq ?_
          refine AWp_heap (σ' := σ ++ [.box [.int .i64 v.kind, .bool v.b, .bool v.n.neg, .str v.n.digits, .int .i64 v.n.exp, .str v.s, .sl false 8 (lcells v.l), .sl false 9 (mcells v.m)], .box [.int .i64 x.kind, .bool x.b, .bool x.n.neg, .str x.n.digits, .int .i64 x.n.exp, .str x.s, .sl false 8 (lcells x.l), .sl false 9 (mcells x.m)], .box [.int .i64 (jed 1 x (l0 ++ [nm]) v).1.kind, .bool (jed 1 x (l0 ++ [nm]) v).1.b, .bool (jed 1 x (l0 ++ [nm]) v).1.n.neg, .str (jed 1 x (l0 ++ [nm]) v).1.n.digits, .int .i64 (jed 1 x (l0 ++ [nm]) v).1.n.exp, .str (jed 1 x (l0 ++ [nm]) v).1.s, .sl false 8 (lcells (jed 1 x (l0 ++ [nm]) v).1.l), .sl false 9 (mcells (jed 1 x (l0 ++ [nm]) v).1.m)], .box [.int .i64 (jed 3 x (l0 ++ [nm]) v).1.kind, .bool (jed 3 x (l0 ++ [nm]) v).1.b, .bool (jed 3 x (l0 ++ [nm]) v).1.n.neg, .str (jed 3 x (l0 ++ [nm]) v).1.n.digits, .int .i64 (jed 3 x (l0 ++ [nm]) v).1.n.exp, .str (jed 3 x (l0 ++ [nm]) v).1.s, .sl false 8 (lcells (jed 3 x (l0 ++ [nm]) v).1.l), .sl false 9 (mcells (jed 3 x (l0 ++ [nm]) v).1.m)], .box [.int .i64 (jget l0 v).1.kind, .bool (jget l0 v).1.b, .bool (jget l0 v).1.n.neg, .str (jget l0 v).1.n.digits, .int .i64 (jget l0 v).1.n.exp, .str (jget l0 v).1.s, .sl false 8 (lcells (jget l0 v).1.l), .sl false 9 (mcells (jget l0 v).1.m)], .box [.int .i64 (jget (l0 ++ [nm]) v).1.kind, .bool (jget (l0 ++ [nm]) v).1.b, .bool (jget (l0 ++ [nm]) v).1.n.neg, .str (jget (l0 ++ [nm]) v).1.n.digits, .int .i64 (jget (l0 ++ [nm]) v).1.n.exp, .str (jget (l0 ++ [nm]) v).1.s, .sl false 8 (lcells (jget (l0 ++ [nm]) v).1.l), .sl false 9 (mcells (jget (l0 ++ [nm]) v).1.m)], .dead, .box [.int .i64 x.kind, .bool x.b, .bool x.n.neg, .str x.n.digits, .int .i64 x.n.exp, .str x.s, .sl false 8 (lcells x.l), .sl false 9 (mcells x.m)], .box [.int .i64 v.kind, .bool v.b, .bool v.n.neg, .str v.n.digits, .int .i64 v.n.exp, .str v.s, .sl false 8 (lcells v.l), .sl false 9 (mcells v.m)]]) rfl ?_
          refine AWp_regL ?_
          refine zg2 ?_
          refine zt rfl (zc rfl (rsameQ_c v _ _ (vcells_eq v) hjv)) ?_
          refine zv1 ?_
          refine zu1 ?_
          refine zt rfl (op_neCer rfl Tryz.underlying35 rfl) ?_
          refine zv4 ?_
          refine AWp_condF rfl ?_
          refine AWp_skip ?_
          refine ⟨(), σ.length + 4, trivial, by simp, ⟨rfl, rfl, rfl, rfl, rfl, rfl, trivial⟩, closed_own 4 hcl ?_, ?_, ?_⟩
          ·simp [ownLt, AO.cells, AV.ltL, AV.lt]
          ·simp [ltE, AV.lt, AV.ltL, cerJ_lt]
          ·exact take_own 4
         ·rw [h9]; replace h9 := zcl h9
          refine zv3 ?_
          refine AWp_cond rfl (fun h10 => ?_) (fun h10 => ?_)
          ·(try rw [h10]); replace h10 := zcl h10
           have hb2 := back_add_rem (z := x) hmv hmx hul h5 (.inr (by simpa using h10))
           have hb2a := congrArg Prod.fst hb2
           have hb2b := congrArg Prod.snd hb2
           simp only at hb2a hb2b
           refine zu2 ?_
           refine zt rfl (zc rfl (eremJ_c x (l0 ++ [nmB (jget l0 v).1 nm]) hlb hllb _ (jed 1 x (l0 ++ [nm]) v).1 _ _ (vcells_eq _) hj1.1 hst1)) ?_
           rw [hb2a, hb2b, vcells_eq v]
           refine zv6 ?_
           refine AWp_seq ?_
           refine AWp_heap (σ' := σ ++ [.box [.int .i64 v.kind, .bool v.b, .bool v.n.neg, .str v.n.digits, .int .i64 v.n.exp, .str v.s, .sl false 8 (lcells v.l), .sl false 9 (mcells v.m)], .box [.int .i64 x.kind, .bool x.b, .bool x.n.neg, .str x.n.digits, .int .i64 x.n.exp, .str x.s, .sl false 8 (lcells x.l), .sl false 9 (mcells x.m)], .box [.int .i64 (jed 1 x (l0 ++ [nm]) v).1.kind, .bool (jed 1 x (l0 ++ [nm]) v).1.b, .bool (jed 1 x (l0 ++ [nm]) v).1.n.neg, .str (jed 1 x (l0 ++ [nm]) v).1.n.digits, .int .i64 (jed 1 x (l0 ++ [nm]) v).1.n.exp, .str (jed 1 x (l0 ++ [nm]) v).1.s, .sl false 8 (lcells (jed 1 x (l0 ++ [nm]) v).1.l), .sl false 9 (mcells (jed 1 x (l0 ++ [nm]) v).1.m)], .box [.int .i64 (jed 3 x (l0 ++ [nm]) v).1.kind, .bool (jed 3 x (l0 ++ [nm]) v).1.b, .bool (jed 3 x (l0 ++ [nm]) v).1.n.neg, .str (jed 3 x (l0 ++ [nm]) v).1.n.digits, .int .i64 (jed 3 x (l0 ++ [nm]) v).1.n.exp, .str (jed 3 x (l0 ++ [nm]) v).1.s, .sl false 8 (lcells (jed 3 x (l0 ++ [nm]) v).1.l), .sl false 9 (mcells (jed 3 x (l0 ++ [nm]) v).1.m)], .box [.int .i64 (jget l0 v).1.kind, .bool (jget l0 v).1.b, .bool (jget l0 v).1.n.neg, .str (jget l0 v).1.n.digits, .int .i64 (jget l0 v).1.n.exp, .str (jget l0 v).1.s, .sl false 8 (lcells (jget l0 v).1.l), .sl false 9 (mcells (jget l0 v).1.m)], .box [.int .i64 (jget (l0 ++ [nm]) v).1.kind, .bool (jget (l0 ++ [nm]) v).1.b, .bool (jget (l0 ++ [nm]) v).1.n.neg, .str (jget (l0 ++ [nm]) v).1.n.digits, .int .i64 (jget (l0 ++ [nm]) v).1.n.exp, .str (jget (l0 ++ [nm]) v).1.s, .sl false 8 (lcells (jget (l0 ++ [nm]) v).1.l), .sl false 9 (mcells (jget (l0 ++ [nm]) v).1.m)], .dead, .box [.int .i64 x.kind, .bool x.b, .bool x.n.neg, .str x.n.digits, .int .i64 x.n.exp, .str x.s, .sl false 8 (lcells x.l), .sl false 9 (mcells x.m)], .box [.int .i64 v.kind, .bool v.b, .bool v.n.neg, .str v.n.digits, .int .i64 v.n.exp, .str v.s, .sl false 8 (lcells v.l), .sl false 9 (mcells v.m)]]) rfl ?_
           refine AWp_regL ?_
           refine zg2 ?_
           refine zt rfl (zc rfl (rsameQ_c v _ _ (vcells_eq v) hjv)) ?_
           refine zv1 ?_
           refine zu1 ?_
           refine zt rfl (op_neCer rfl Tryz.underlying35 rfl) ?_
           refine zv4 ?_
           refine AWp_condF rfl ?_
           refine AWp_skip ?_
           refine ⟨(), σ.length + 4, trivial, by simp, ⟨rfl, rfl, rfl, rfl, rfl, rfl, trivial⟩, closed_own 4 hcl ?_, ?_, ?_⟩
           ·simp [ownLt, AO.cells, AV.ltL, AV.lt]
           ·simp [ltE, AV.lt, AV.ltL, cerJ_lt]
           ·exact take_own 4
          ·(try rw [h10]); replace h10 := zcl h10
           refine AWp_skip ?_
           refine ⟨(), σ.length + 4, trivial, by simp, ⟨rfl, rfl, rfl, rfl, rfl, rfl, trivial⟩, closed_own 4 hcl ?_, ?_, ?_⟩
           ·simp [ownLt, AO.cells, AV.ltL, AV.lt]
           ·simp [ltE, AV.lt, AV.ltL, cerJ_lt]
           ·exact take_own 4
       ·(try rw [h6]); replace h6 := zcl h6
        refine AWp_skip ?_
        refine ⟨(), σ.length + 4, trivial, by simp, ⟨rfl, rfl, rfl, rfl, rfl, rfl, trivial⟩, closed_own 4 hcl ?_, ?_, ?_⟩
        ·simp [ownLt, AO.cells, AV.ltL, AV.lt]
        ·simp [ltE, AV.lt, AV.ltL, cerJ_lt]
        ·exact take_own 4
      ·rw [h5]; replace h5 := zcl h5
       refine zv4 ?_
       refine AWp_condF rfl ?_
       refine AWp_skip ?_
       refine ⟨(), σ.length + 4, trivial, by simp, ⟨rfl, rfl, rfl, rfl, rfl, rfl, trivial⟩, closed_own 4 hcl ?_, ?_, ?_⟩
       ·simp [ownLt, AO.cells, AV.ltL, AV.lt]
       ·simp [ltE, AV.lt, AV.ltL, cerJ_lt]
       ·exact take_own 4
     ·skip
      refine zu2 ?_
      refine zt rfl (zc rfl (rget_c l _ v _ _ hl (vcells_eq v) hjv)) ?_
      rw [vcells_eq (jget l v).1]
      refine zv6 ?_
      refine AWp_seq ?_
      refine AWp_heap (σ' := σ ++ [.box [.int .i64 v.kind, .bool v.b, .bool v.n.neg, .str v.n.digits, .int .i64 v.n.exp, .str v.s, .sl false 8 (lcells v.l), .sl false 9 (mcells v.m)], .box [.int .i64 x.kind, .bool x.b, .bool x.n.neg, .str x.n.digits, .int .i64 x.n.exp, .str x.s, .sl false 8 (lcells x.l), .sl false 9 (mcells x.m)], .box [.int .i64 (jed 1 x l v).1.kind, .bool (jed 1 x l v).1.b, .bool (jed 1 x l v).1.n.neg, .str (jed 1 x l v).1.n.digits, .int .i64 (jed 1 x l v).1.n.exp, .str (jed 1 x l v).1.s, .sl false 8 (lcells (jed 1 x l v).1.l), .sl false 9 (mcells (jed 1 x l v).1.m)], .box [.int .i64 (jed 3 x l v).1.kind, .bool (jed 3 x l v).1.b, .bool (jed 3 x l v).1.n.neg, .str (jed 3 x l v).1.n.digits, .int .i64 (jed 3 x l v).1.n.exp, .str (jed 3 x l v).1.s, .sl false 8 (lcells (jed 3 x l v).1.l), .sl false 9 (mcells (jed 3 x l v).1.m)], .box [.int .i64 (jget l v).1.kind, .bool (jget l v).1.b, .bool (jget l v).1.n.neg, .str (jget l v).1.n.digits, .int .i64 (jget l v).1.n.exp, .str (jget l v).1.s, .sl false 8 (lcells (jget l v).1.l), .sl false 9 (mcells (jget l v).1.m)]]) rfl ?_
      refine AWp_regL ?_
      refine zg2 ?_
      refine zt rfl (zc rfl (eremJ_c x l hl hll _ v _ _ (vcells_eq v) hjv hmv)) ?_
      rw [vcells_eq (jed 2 x l v).1]
      refine zv6 ?_
      refine AWp_joinT (ι := Unit) (fun b => True) (fun b => ⟨[], [(7, .bool true), (8, .ptr (σ.length + 0) 0), (10, .sl false 1 (srow l)), (12, .ptr (σ.length + 1) 0), (14, .str (ba (jtx v))), (33, .ptr (σ.length + 4) 0), (35, .ptr (σ.length + 5) 0), (36, cerJ (jed 2 x l v).2)]⟩) (fun b => σ ++ [.box [.int .i64 v.kind, .bool v.b, .bool v.n.neg, .str v.n.digits, .int .i64 v.n.exp, .str v.s, .sl false 8 (lcells v.l), .sl false 9 (mcells v.m)], .box [.int .i64 x.kind, .bool x.b, .bool x.n.neg, .str x.n.digits, .int .i64 x.n.exp, .str x.s, .sl false 8 (lcells x.l), .sl false 9 (mcells x.m)], .box [.int .i64 (jed 1 x l v).1.kind, .bool (jed 1 x l v).1.b, .bool (jed 1 x l v).1.n.neg, .str (jed 1 x l v).1.n.digits, .int .i64 (jed 1 x l v).1.n.exp, .str (jed 1 x l v).1.s, .sl false 8 (lcells (jed 1 x l v).1.l), .sl false 9 (mcells (jed 1 x l v).1.m)], .box [.int .i64 (jed 3 x l v).1.kind, .bool (jed 3 x l v).1.b, .bool (jed 3 x l v).1.n.neg, .str (jed 3 x l v).1.n.digits, .int .i64 (jed 3 x l v).1.n.exp, .str (jed 3 x l v).1.s, .sl false 8 (lcells (jed 3 x l v).1.l), .sl false 9 (mcells (jed 3 x l v).1.m)], .box [.int .i64 (jget l v).1.kind, .bool (jget l v).1.b, .bool (jget l v).1.n.neg, .str (jget l v).1.n.digits, .int .i64 (jget l v).1.n.exp, .str (jget l v).1.s, .sl false 8 (lcells (jget l v).1.l), .sl false 9 (mcells (jget l v).1.m)], .box [.int .i64 (jed 2 x l v).1.kind, .bool (jed 2 x l v).1.b, .bool (jed 2 x l v).1.n.neg, .str (jed 2 x l v).1.n.digits, .int .i64 (jed 2 x l v).1.n.exp, .str (jed 2 x l v).1.s, .sl false 8 (lcells (jed 2 x l v).1.l), .sl false 9 (mcells (jed 2 x l v).1.m)]]) ?_ (fun b hj => ?_)
      ·skip
       refine AWp_seq ?_
       refine AWp_heap (σ' := σ ++ [.box [.int .i64 v.kind, .bool v.b, .bool v.n.neg, .str v.n.digits, .int .i64 v.n.exp, .str v.s, .sl false 8 (lcells v.l), .sl false 9 (mcells v.m)], .box [.int .i64 x.kind, .bool x.b, .bool x.n.neg, .str x.n.digits, .int .i64 x.n.exp, .str x.s, .sl false 8 (lcells x.l), .sl false 9 (mcells x.m)], .box [.int .i64 (jed 1 x l v).1.kind, .bool (jed 1 x l v).1.b, .bool (jed 1 x l v).1.n.neg, .str (jed 1 x l v).1.n.digits, .int .i64 (jed 1 x l v).1.n.exp, .str (jed 1 x l v).1.s, .sl false 8 (lcells (jed 1 x l v).1.l), .sl false 9 (mcells (jed 1 x l v).1.m)], .box [.int .i64 (jed 3 x l v).1.kind, .bool (jed 3 x l v).1.b, .bool (jed 3 x l v).1.n.neg, .str (jed 3 x l v).1.n.digits, .int .i64 (jed 3 x l v).1.n.exp, .str (jed 3 x l v).1.s, .sl false 8 (lcells (jed 3 x l v).1.l), .sl false 9 (mcells (jed 3 x l v).1.m)], .box [.int .i64 (jget l v).1.kind, .bool (jget l v).1.b, .bool (jget l v).1.n.neg, .str (jget l v).1.n.digits, .int .i64 (jget l v).1.n.exp, .str (jget l v).1.s, .sl false 8 (lcells (jget l v).1.l), .sl false 9 (mcells (jget l v).1.m)], .box [.int .i64 (jed 2 x l v).1.kind, .bool (jed 2 x l v).1.b, .bool (jed 2 x l v).1.n.neg, .str (jed 2 x l v).1.n.digits, .int .i64 (jed 2 x l v).1.n.exp, .str (jed 2 x l v).1.s, .sl false 8 (lcells (jed 2 x l v).1.l), .sl false 9 (mcells (jed 2 x l v).1.m)]]) rfl ?_
       refine AWp_regL ?_
       refine zg1 ?_
       refine zt rfl (op_eqCer rfl Tryz.underlying35 rfl) ?_
       rw [rem_gi l hmv _ hsl0]
       refine zg2 ?_
       refine zsp 199 rfl (fun h11 => ?_) fun h11 => ?_
       ·rw [h11]; replace h11 := zcl h11
        refine zg4 ?_
        refine zt rfl (op_bneqE rfl Tryz.underlying4 rfl rfl (by first | rfl | simp)) ?_
        refine zon ?_
        refine AWp_condF rfl ?_
        refine AWp_skip ?_
        refine ⟨(), σ.length + 6, trivial, by simp, ⟨rfl, rfl, rfl, rfl, rfl, rfl, rfl, rfl, rfl, trivial⟩, closed_own 6 hcl ?_, ?_, ?_⟩
        ·simp [ownLt, AO.cells, AV.ltL, AV.lt]
        ·simp [ltE, AV.lt, AV.ltL, cerJ_lt]
        ·exact take_own 6
       ·rw [h11]; replace h11 := zcl h11
        refine zg4 ?_
        refine zt rfl (op_bneqE rfl Tryz.underlying4 rfl rfl (by first | rfl | simp)) ?_
        refine zon ?_
        refine AWp_condF rfl ?_
        refine AWp_skip ?_
        refine ⟨(), σ.length + 6, trivial, by simp, ⟨rfl, rfl, rfl, rfl, rfl, rfl, rfl, rfl, rfl, trivial⟩, closed_own 6 hcl ?_, ?_, ?_⟩
        ·simp [ownLt, AO.cells, AV.ltL, AV.lt]
        ·simp [ltE, AV.lt, AV.ltL, cerJ_lt]
        ·exact take_own 6
      ·skip
       refine AWp_seq ?_
       refine zu1 ?_
       refine zt rfl (op_eqCer rfl Tryz.underlying35 rfl) ?_
       refine zon ?_
       refine AWp_cond rfl (fun h12 => ?_) (fun h12 => ?_)
       ·(try rw [h12]); replace h12 := zcl h12
        have hb3 := back_rem_add (z := x) l hmv h12
        have hb3a := congrArg Prod.fst hb3
        have hb3b := congrArg Prod.snd hb3
        simp only at hb3a hb3b
        have hst2 := jed_st (op := 2) (.inr (.inl rfl)) hmx l hmv
        refine zu3 ?_
        refine zt rfl (zc rfl (eaddJ_c (jget l v).1 _ (vcells_eq _) l hl hll _ (jed 2 x l v).1 _ _ (vcells_eq _) hj2.1 hst2)) ?_
        rw [hb3a, hb3b, vcells_eq v]
        refine zv6 ?_
        refine AWp_seq ?_
        refine AWp_heap (σ' := σ ++ [.box [.int .i64 v.kind, .bool v.b, .bool v.n.neg, .str v.n.digits, .int .i64 v.n.exp, .str v.s, .sl false 8 (lcells v.l), .sl false 9 (mcells v.m)], .box [.int .i64 x.kind, .bool x.b, .bool x.n.neg, .str x.n.digits, .int .i64 x.n.exp, .str x.s, .sl false 8 (lcells x.l), .sl false 9 (mcells x.m)], .box [.int .i64 (jed 1 x l v).1.kind, .bool (jed 1 x l v).1.b, .bool (jed 1 x l v).1.n.neg, .str (jed 1 x l v).1.n.digits, .int .i64 (jed 1 x l v).1.n.exp, .str (jed 1 x l v).1.s, .sl false 8 (lcells (jed 1 x l v).1.l), .sl false 9 (mcells (jed 1 x l v).1.m)], .box [.int .i64 (jed 3 x l v).1.kind, .bool (jed 3 x l v).1.b, .bool (jed 3 x l v).1.n.neg, .str (jed 3 x l v).1.n.digits, .int .i64 (jed 3 x l v).1.n.exp, .str (jed 3 x l v).1.s, .sl false 8 (lcells (jed 3 x l v).1.l), .sl false 9 (mcells (jed 3 x l v).1.m)], .box [.int .i64 (jget l v).1.kind, .bool (jget l v).1.b, .bool (jget l v).1.n.neg, .str (jget l v).1.n.digits, .int .i64 (jget l v).1.n.exp, .str (jget l v).1.s, .sl false 8 (lcells (jget l v).1.l), .sl false 9 (mcells (jget l v).1.m)], .box [.int .i64 (jed 2 x l v).1.kind, .bool (jed 2 x l v).1.b, .bool (jed 2 x l v).1.n.neg, .str (jed 2 x l v).1.n.digits, .int .i64 (jed 2 x l v).1.n.exp, .str (jed 2 x l v).1.s, .sl false 8 (lcells (jed 2 x l v).1.l), .sl false 9 (mcells (jed 2 x l v).1.m)], .box [.int .i64 v.kind, .bool v.b, .bool v.n.neg, .str v.n.digits, .int .i64 v.n.exp, .str v.s, .sl false 8 (lcells v.l), .sl false 9 (mcells v.m)]]) rfl ?_
        refine AWp_regL ?_
        refine zg2 ?_
        refine zt rfl (zc rfl (rsameQ_c v _ _ (vcells_eq v) hjv)) ?_
        refine zv1 ?_
        refine zu1 ?_
        refine zt rfl (op_neCer rfl Tryz.underlying35 rfl) ?_
        refine zv4 ?_
        refine AWp_condF rfl ?_
        refine AWp_skip ?_
        refine zu3 ?_
        refine ztG rfl rfl (zc rfl (vcells_eq v ▸ rsh_any 2002 v _ hsv hjv hkb (by omega))) ?_
        refine zg1 ?_
        refine ztG rfl rfl (op_seqT rfl rfl rfl rfl) ?_
        refine zv2 ?_
        refine zrt ?_
        exact ResQ_1 rfl hcl (by simp [AV.lt, AV.ltL]) ⟨rfl, rfl⟩
       ·(try rw [h12]); replace h12 := zcl h12
        refine AWp_skip ?_
        refine zu3 ?_
        refine ztG rfl rfl (zc rfl (vcells_eq v ▸ rsh_any 2002 v _ hsv hjv hkb (by omega))) ?_
        refine zg1 ?_
        refine ztG rfl rfl (op_seqT rfl rfl rfl rfl) ?_
        refine zv2 ?_
        refine zrt ?_
        exact ResQ_1 rfl hcl (by simp [AV.lt, AV.ltL]) ⟨rfl, rfl⟩
end Lg
set_option maxRecDepth 100000
set_option maxHeartbeats 4000000
namespace Go.Proofs.YtdacoelmmaiffaaGreatDoor
open Go Go.ChangeShapes Go.WideShapes Go.ChangeAt Go.RowKit Go.Lib
open Go.ChangeMaps (open_string shut_string)
noncomputable def editBack_lw (os : Os) : World := World.laidAll Tryz.prog os Rows.editBackRow.laid
theorem editBack_pl : (Rows.editBackRow.laid.all fun x => x.2.handleName?.isNone) = true := by kernel_rfl
theorem editBack_mh (os : Os) (args : Array Value) : laidMetH Tryz.prog Rows.editBackRow.laid ((editBack_lw os).forCall (fun _ _ => 0) ⟨#[], args, []⟩).memory := by
  rw [MakeChecks.laidMetH_plain _ _ _ editBack_pl]; exact laidMet_laidAll _ (by kernel_rfl) (by kernel_rfl)
theorem editBack_lifted (os : Os) (started : os.Started) (H : Type) (enc : TypeId × Value → H) :
    ReturnsInHanded {} Tryz.checked os 4 .any (fun w args => (Rows.editBackSpec.pre enc Tryz.prog Tryz.f4 [] false w args ∧ laidMetH Tryz.prog Rows.editBackRow.laid w) ∧ sizedMet enc Tryz.prog Tryz.f4 (OpenSpec.ofChange Rows.editBackSpec) false w args)
      (Rows.editBackSpec.post enc Tryz.prog Tryz.f4 false true false false) := by
  refine returnsInHanded_of_change_and (C := Tryz.checked) (X := fun w _ => laidMetH Tryz.prog Rows.editBackRow.laid w) (fun _ _ _ hh h => h.of_heap hh) own started (by kernel_rfl) Tryz.func4
    (ChangeSpec.witness_shaped (enc := enc) (C := Tryz.checked) (os := os) (X := fun w _ => laidMetH Tryz.prog Rows.editBackRow.laid w) false (editBack_lw os) #[.string ⟨#[]⟩, .string ⟨#[]⟩, .string ⟨#[]⟩] 8 (World.laidAll_os _ _ _)
      (World.shaped_of_ZipB (by kernel_rfl) (by kernel_rfl)) (by kernel_rfl) (by kernel_rfl) (by kernel_rfl) (editBack_mh os _)) ?_
  intro W base args ds gs before hval0 hW hz0 hz hL _
  have hval : ∀ (j : Nat) t v, Tryz.f4.params[j]? = some t → args[j]? = some v → Value.okWide Tryz.prog W .any base t v := hval0
  have hW' := hW
  obtain ⟨p, q, hA0, hV, rfl, hfz, hnd⟩ := hW
  have hA : DataW.TrodAll enc Tryz.prog W 0 (fun _ => true) true Tryz.f4.params.toList args.toList ds p := hA0
  rw [Tryz.params4] at hA hval hz
  obtain ⟨v0, vs0, d0, ds0, p0, q0, hargs, rfl, rfl, h0, r0⟩ := trodAll_cons hA
  obtain ⟨v1, vs1, d1, ds1, p1, q1, rfl, rfl, rfl, h1, r1⟩ := trodAll_cons r0
  obtain ⟨v2, vs2, d2, ds2, p2, q2, rfl, rfl, rfl, h2, r2⟩ := trodAll_cons r1
  obtain ⟨rfl, rfl, rfl⟩ := trodAll_nil r2
  obtain rfl : args = #[v0, v1, v2] := by cases args; simp_all
  obtain ⟨rfl, rfl⟩ := trodVars_none hV
  obtain ⟨x0, rfl, rfl, rfl, w0⟩ := open_string Tryz.underlying9 (hval 0 9 v0 rfl rfl) h0
  obtain ⟨x1, rfl, rfl, rfl, w1⟩ := open_string Tryz.underlying9 (hval 1 9 v1 rfl rfl) h1
  obtain ⟨x2, rfl, rfl, rfl, w2⟩ := open_string Tryz.underlying9 (hval 2 9 v2 rfl rfl) h2
  clear hA0 hval0
  simp only [List.append_nil] at hW'
  have b1 : x1.size ≤ 140737488355328 := by
    have := List.all_eq_true.1 hz x1.data.toList.length (by simp [DataW.weightsEach, DataW.weights])
    have e : x1.data.toList.length = x1.size := Array.length_toList ..
    rw [e] at this; have := of_decide_eq_true this; unfold reachBytes at this; omega
  have hcall := Lg.calls_of (P := Tryz.prog) (f := 4) (args := [.str x0, .str x1, .str x2]) (cargs := [.string x0, .string x1, .string x2]) (W := W)
    (fun st => (.cons (.str _) (.cons (.str _) (.cons (.str _) .nil))))
    (fun hg => by exact Lg.editBack_c x0 x1 x2 [] b1)
  refine hcall.mono fun e W' ⟨he, hg⟩ => ?_
  subst he
  refine ⟨_, rfl, _, _, _, [], [], [], hW', trodAll_mk1 (shut_bool Tryz.underlying4 _), ?_, rfl, hg.frame _, fun h => by cases h⟩
  exact (trodAll_cons_mk (shut_string Tryz.underlying9 w0) (trodAll_cons_mk (shut_string Tryz.underlying9 w1) (trodAll_cons_mk (shut_string Tryz.underlying9 w2) trodAll_mk0)))
theorem editBack_holds : Rows.EditBackSaid :=
  OpenClaim.holds_of_wide 4 Tryz.f4 rfl rfl rfl rfl rfl rfl rfl ⟨rfl, rfl, rfl, rfl, rfl⟩ rfl rfl rfl rfl rfl (by kernel_rfl) Tryz.func4 (by kernel_rfl)
    (of_decide_eq_true (by kernel_rfl)) (by unfold Func.isWrapper; first | (rw [if_pos (by decide +kernel)]; kernel_rfl) | (rw [if_neg (by decide +kernel)]; exact ⟨rfl, rfl⟩))
    (fun os started H enc _ => editBack_lifted os started H enc)
end Go.Proofs.YtdacoelmmaiffaaGreatDoor
