/- A part of the proof of For every input the law doubletlaw07.EditBack returns true: what was added, or replaced, is there; what was added and was not there, removed again, leaves all as it was; what was removed, added again, too; the value stays as it is; the input reads as it did.: Le2 Le3 Le4 Lr8 X1 Q1 Lg35 E0 W5 W9 Qz W8 X2 Lg47 Lg48 Lg49 Lg53 Y1 Le5 Y2 Y3 Lg54 Y4 Y5. -/
import Derived.Test.YtdacoelmmaiffaaGreatDoorQ5
import Derived.Test.YtdacoelmmaiffaaGreatDoorQ4
import Derived.Test.YtdacoelmmaiffaaGreatDoorQ3
import Derived.Laws.CopyRow
import Derived.Lib.Overlaps
set_option linter.unusedVariables false
set_option linter.unusedSimpArgs false
set_option linter.unusedSectionVars false
namespace Lg
open Go
def jeK (op : Int) (nm : BL) (last : Bool) (v : JV) : Int := jixN nm v.l.length (decide (op = 1) && last)
def jeO (op : Int) (nm : BL) (last : Bool) (v : JV) : Bool := jixO nm v.l.length (decide (op = 1) && last)
variable {op : Int} {x v : JV} {nm : BL} {r : List BL}
theorem jed_nil2 : jed 2 x [] v = (vz, 7) := rfl
theorem jed_nil (h : ¬ op = 2) : jed op x [] v = (x, 0) := by rw [jed, if_neg h]
variable {last : Bool} {k : Nat}
theorem jedA_no (hl : r.isEmpty = last) (h4 : v.kind = 4) (ho : jeO op nm last v = false) : jed op x (nm :: r) v = (vz, 6) := by
  subst hl
  rw [jed, if_pos h4, if_neg]; show ¬ jeO op nm r.isEmpty v = true; simp [ho]
theorem jedA_bad (hl : r.isEmpty = last) (h4 : v.kind = 4) (hk : jeK op nm last v = k) (ho : jeO op nm last v = true) (hr : last = false) {a : JV} (ha : v.l[k]? = some a) (hb : ¬ (jed op x r a).2 = 0) : jed op x (nm :: r) v = (vz, (jed op x r a).2) := by
  have e1 : (jixN nm v.l.length (decide (op = 1) && r.isEmpty)).toNat = k := by subst hl; show (jeK op nm r.isEmpty v).toNat = k; rw [hk]; rfl
  have e2 : v.l.getD k vz = a := by rw [List.getD_eq_getElem?_getD, ha]; rfl
  rw [jed, if_pos h4, if_pos (by subst hl; exact ho), e1, e2, if_pos ⟨by rw [hl, hr], hb⟩]
theorem jedA_ok (hl : r.isEmpty = last) (h4 : v.kind = 4) (hk : jeK op nm last v = k) (ho : jeO op nm last v = true) (hb : last = false → (jed op x r (v.l.getD k vz)).2 = 0) :
    jed op x (nm :: r) v = (.mk v.kind v.b v.n v.s (eA last op k x (jed op x r (v.l.getD k vz)).1 v.l (v.l.length + 1)) [], 0) := by
  have e1 : (jixN nm v.l.length (decide (op = 1) && r.isEmpty)).toNat = k := by subst hl; show (jeK op nm r.isEmpty v).toNat = k; rw [hk]; rfl
  rw [jed, if_pos h4, if_pos (by subst hl; exact ho), e1, if_neg, hl]
  rintro ⟨h1, h2⟩; exact h2 (hb (by rw [← hl]; exact h1))
theorem jedM_no (hl : r.isEmpty = last) (h4 : ¬ v.kind = 4) (h : ¬ v.kind = 5 ∨ (jfB v (ba nm) = false ∧ (¬ op = 1 ∨ last = false))) : jed op x (nm :: r) v = (vz, 6) := by
  subst hl; rw [jed, if_neg h4, if_pos h]
theorem eBad_at {key : ByteArray} {g : JV → Int} {m : List (ByteArray × JV)} {i : Nat} {q : ByteArray × JV} (hq : m[i]? = some q) (h : ∀ p ∈ m.take i, p.1 = key → g p.2 = 0) (hk : q.1 = key) (hb : ¬ g q.2 = 0) : eBad false key g m = g q.2 := by
  have hi := (List.getElem?_eq_some_iff.1 hq).1
  have e : m = m.take i ++ (q :: m.drop (i + 1)) := by
    have h0 : m.drop i = q :: m.drop (i + 1) := by
      rw [List.drop_eq_getElem_cons hi]; congr 1
      have := List.getElem?_eq_getElem hi
      rw [hq] at this; exact (Option.some.inj this).symm
    rw [← h0, List.take_append_drop]
  have hn : (m.take i).find? (fun q => decide (q.1 = key) && decide (g q.2 ≠ 0)) = none := by
    rw [List.find?_eq_none]; intro p hp; simp only [Bool.and_eq_true, decide_eq_true_eq, not_and]
    intro h1 h2; exact h2 (h p hp h1)
  unfold eBad
  rw [if_neg (by simp), e, List.find?_append, hn, Option.none_or, List.find?_cons_of_pos (by simp [hk, hb])]
  rfl
theorem eBad_none {key : ByteArray} {g : JV → Int} {m : List (ByteArray × JV)} (h : ∀ p ∈ m, p.1 = key → g p.2 = 0) (last : Bool) : eBad last key g m = 0 := by
  unfold eBad
  split
  · rfl
  · have hn : m.find? (fun q => decide (q.1 = key) && decide (g q.2 ≠ 0)) = none := by
      rw [List.find?_eq_none]; intro p hp; simp only [Bool.and_eq_true, decide_eq_true_eq, not_and]
      intro h1 h2; exact h2 (h p hp h1)
    rw [hn]; rfl
theorem jedM_bad (hl : r.isEmpty = last) (h4 : ¬ v.kind = 4) (h5 : v.kind = 5) (h : jfB v (ba nm) = true ∨ (op = 1 ∧ last = true)) {b : Int} (hb : eBad last (ba nm) (fun y => (jed op x r y).2) v.m = b) (hb0 : ¬ b = 0) : jed op x (nm :: r) v = (vz, b) := by
  subst hl; subst hb
  rw [jed, if_neg h4, if_neg (by simp only [h5, ne_eq, not_true, false_or]; rintro ⟨h1, h2⟩; rcases h with h | ⟨h, h'⟩; · rw [h1] at h; cases h
                                 · rcases h2 with h2 | h2; · exact h2 h
                                   · rw [h'] at h2; cases h2), if_pos hb0]
theorem jedM_ok (hl : r.isEmpty = last) (h4 : ¬ v.kind = 4) (h5 : v.kind = 5) (h : jfB v (ba nm) = true ∨ (op = 1 ∧ last = true)) (hb : eBad last (ba nm) (fun y => (jed op x r y).2) v.m = 0) :
    jed op x (nm :: r) v = (.mk v.kind v.b v.n v.s [] (eM last op (ba nm) x (fun y => (jed op x r y).1) v.m false), 0) := by
  subst hl
  rw [jed, if_neg h4, if_neg (by simp only [h5, ne_eq, not_true, false_or]; rintro ⟨h1, h2⟩; rcases h with h | ⟨h, h'⟩; · rw [h1] at h; cases h
                                 · rcases h2 with h2 | h2; · exact h2 h
                                   · rw [h'] at h2; cases h2), if_neg (by simp [hb])]
section
variable {y a : JV} {l : List JV} {i : Nat}
theorem eOld_end (h : l[i]? = none) : eOld last op k y l i = [] := by unfold eOld; rw [h]
theorem eOld_ne (h : l[i]? = some a) (hk : ¬ i = k) : eOld last op k y l i = [a] := by unfold eOld; rw [h]; simp only; rw [if_neg hk]
theorem eOld_ed (h : l[i]? = some a) (hk : i = k) (hl : last = false) : eOld last op k y l i = [y] := by unfold eOld; rw [h]; simp only; rw [if_pos hk, if_neg (by simp [hl])]
theorem eOld_keep (h : l[i]? = some a) (hl : last = true) (ho : op = 1) : eOld last op k y l i = [a] := by unfold eOld; rw [h]; simp only; split <;> simp [hl, ho]
theorem eOld_del (hk : i = k) (hl : last = true) (ho : ¬ op = 1) : eOld last op k y l i = [] := by unfold eOld; split <;> simp [hk, hl, ho]
end
theorem srow_tail (nm : BL) (r : List BL) : ((srow (nm :: r)).drop 1).take ((srow (nm :: r)).length - 1) = srow r := by
  simp only [srow, List.map_cons, List.drop_succ_cons, List.drop_zero, List.length_cons, Nat.add_sub_cancel]; rw [List.take_of_length_le (Nat.le_refl _)]
end Lg
namespace Lg
end Lg
namespace Lg
open Go
abbrev BJ := ByteArray × JV
def eMh (last : Bool) (op : Int) (key : ByteArray) (put : Bool) : Option BJ → Bool
  | none => last && decide (op ≠ 2) && !put
  | some q => eMi last op key q.1 put
def eMn (last : Bool) (op : Int) (key : ByteArray) (x : JV) (put : Bool) (o : Option BJ) : List BJ := if eMh last op key put o = true then [(key, x)] else []
variable {last : Bool} {op : Int} {key : ByteArray} {x : JV} {f : JV → JV} {m : List BJ} {i : Nat} {put : Bool} {q : BJ}
end Lg
namespace Lg
end Lg
namespace Lg
open Go
/-- A member more, whose name opens with z. -/
def zkey (key : ByteArray) : BL := 122 :: key.data.toList
def jv1 : JV := .mk 1 false ⟨false, ⟨#[]⟩, 0⟩ ⟨#[]⟩ [] []
def edV (key : ByteArray) (v : JV) : JV := (jed 1 jv1 [zkey key] v).1
def jv4 (l : List JV) : JV := .mk 4 false ⟨false, ⟨#[]⟩, 0⟩ ⟨#[]⟩ l []
section
variable [GLay]
end
end Lg
namespace Lg
open Go
theorem vcells_ones [GLay] (v : JV) : ones (vcells v) = true := by rw [vcells_eq]; rfl
theorem lflat_ones [GLay] (l : List JV) : ones (lcells l).flatten = true := by
  rw [ones_iff]; intro a ha
  obtain ⟨e, he, h⟩ := List.mem_flatten.1 ha
  rw [lcells_eq] at he
  obtain ⟨x, _, rfl⟩ := List.mem_map.1 he
  exact (ones_iff _).1 (vcells_ones x) a h
end Lg
namespace Lg
open Go
def trE (nm : BL) : ByteArray := ⟨(Lib.trimS nm dgs).toArray⟩
theorem trE_iff {nm : BL} : trE nm = ⟨#[]⟩ ↔ runl (ba nm) 0 = nm.length := by
  rw [← aD_run, ← trim_nil]
  constructor
  · intro h
    have h1 : (trE nm).data.toList = [] := by rw [h]
    have h2 : (trE nm).data.toList = Lib.trimS nm dgs := by simp [trE]
    rw [← h2]; exact h1
  · intro h; unfold trE; rw [h]
/-! ### What stands at a pointer -/
def jget : List BL → JV → JV × Bool
  | [], v => (v, true)
  | nm :: r, v => if v.kind = 4 then (if jixO nm v.l.length false = true then jget r (v.l.getD (jixN nm v.l.length false).toNat vz) else (vz, false)) else
    if jfB v (ba nm) = true then jget r (jfD v (ba nm)) else (vz, false)
theorem jget_no4 {nm : BL} {r : List BL} {v : JV} (h4 : v.kind = 4) (h : jixO nm v.l.length false = false) : jget (nm :: r) v = (vz, false) := by rw [jget, if_pos h4, if_neg (by simp [h])]
theorem jget_4 {nm : BL} {r : List BL} {v a : JV} {k : Nat} (h4 : v.kind = 4) (h : jixO nm v.l.length false = true) (hk : jixN nm v.l.length false = k) (ha : v.l[k]? = some a) : jget (nm :: r) v = jget r a := by
  have e : v.l.getD (jixN nm v.l.length false).toNat vz = a := by rw [hk, Int.toNat_natCast, List.getD_eq_getElem?_getD, ha]; rfl
  rw [jget, if_pos h4, if_pos h, e]
theorem jget_no5 {nm : BL} {r : List BL} {v : JV} (h4 : ¬ v.kind = 4) (h : jfB v (ba nm) = false) : jget (nm :: r) v = (vz, false) := by rw [jget, if_neg h4, if_neg (by simp [h])]
theorem jget_5 {nm : BL} {r : List BL} {v : JV} (h4 : ¬ v.kind = 4) (h : jfB v (ba nm) = true) : jget (nm :: r) v = jget r (jfD v (ba nm)) := by rw [jget, if_neg h4, if_pos h]
theorem jix_nat {nm : BL} {n : Nat} (h : jixO nm n false = true) : ∃ k : Nat, jixN nm n false = k ∧ k < n := by
  unfold jixO jixN at *
  cases h1 : jidx nm n false with
  | none => rw [h1] at h; cases h
  | some k => exact ⟨k, rfl, (jidx_le h1).2 rfl⟩
theorem jget_jb [GLay] : ∀ (l : List BL) {v : JV}, jb v → jb (jget l v).1
  | [], v, h => h
  | nm :: r, v, h => by
    have hz : jb vz := jb_nil _ _ _ _ (Nat.zero_le _) (Nat.zero_le _)
    by_cases h4 : v.kind = 4
    · by_cases ho : jixO nm v.l.length false = true
      · obtain ⟨k, hk, hlt⟩ := jix_nat ho
        rw [jget_4 h4 ho hk (List.getElem?_eq_getElem hlt)]
        exact jget_jb r (lb_get ((jb_eq v).1 h).2.2.2.2.1 (List.getElem?_eq_getElem hlt))
      · rw [jget_no4 h4 (by simpa using ho)]; exact hz
    · by_cases ho : jfB v (ba nm) = true
      · rw [jget_5 h4 ho]; exact jget_jb r (jfD_jb h)
      · rw [jget_no5 h4 (by simpa using ho)]; exact hz
def pC (l : BL) : Int := if (pE l).isNone then 0 else 1
def pS (l : BL) : Int := (pE l).elim 0 fun i => (i : Int)
end Lg
set_option maxRecDepth 20000
set_option maxHeartbeats 4000000
namespace Lg
open Go Go.Proofs Go.RowKit
variable [GLay] 
theorem trimN_c (nm : BL) (σ : List AO) (hs : nm.length ≤ 1000000) : ACalls Tryz.prog 66 [.str (ba nm), .str ⟨#[48, 49, 50, 51, 52, 53, 54, 55, 56, 57]⟩] σ (Ret (.str (trE nm)) σ) := by
  have h := trimD_c (ba nm) σ (by rw [ba_size]; exact hs)
  rw [ba_toList] at h; exact h
theorem pidx_c (nm : BL) (n : Nat) (e : Bool) (σ : List AO) (hs : nm.length ≤ 1000000) (hn : n ≤ 1000000000) : ACalls Tryz.prog 37 [.str (ba nm), .int .i64 (n : Int), .bool e] σ (Ret (.tup [.int .i64 (jixN nm n e), .bool (jixO nm n e)]) σ) := by
 refine ACalls_body Tryz.func37 rfl Tryz.ntmps37 (res2 Tryz.results37) (Nat.le_of_ble_eq_true rfl) (fun hcl hal => ?_)
 have hbs := ba_size nm
 refine zw2 ?_
 refine AWp_join (ι := Unit) (fun b => ¬ (e = true ∧ nm = [45])) (fun b => ⟨[], [(0, .str (ba nm)), (1, .int .i64 (n : Int)), (2, .bool e), (6, .int .i64 0), (7, .bool false)]⟩) (fun b => σ) ?_ (fun b hj => ?_)
 ·skip
  refine zu2 ?_
  refine zsp 11 rfl (fun h1 => ?_) fun h1 => ?_
  ·rw [h1]; replace h1 := zcl h1
   refine zv3 ?_
   refine AWp_cond rfl (fun h2 => ?_) (fun h2 => ?_)
   ·(try rw [h2]); replace h2 := zcl h2
    refine zw3 ?_
    refine zrt ?_
    obtain ⟨q1, q2⟩ := jix_minus (n := n) (e := true) rfl (ba_minus ▸ h2)
    rw [q1, q2]
    exact ResQ_20 rfl rfl hcl (by simp [AV.lt, AV.ltL]) (Ret_of rfl)
   ·(try rw [h2]); replace h2 := zcl h2
    refine AWp_skip ?_
    exact ⟨(), (fun x => h2 (ba_minus ▸ x.2)), ⟨rfl, rfl, rfl, rfl, rfl, rfl, trivial⟩, rfl⟩
  ·rw [h1]; replace h1 := zcl h1
   refine zv3 ?_
   refine AWp_condF rfl ?_
   refine AWp_skip ?_
   exact ⟨(), (fun x => by cases x.1), ⟨rfl, rfl, rfl, rfl, rfl, rfl, trivial⟩, rfl⟩
 ·skip
  have hj0 := hj
  clear hj
  refine AWp_seq ?_
  refine AWp_join (ι := Bool) (fun b => b = decide (jixB nm)) (fun b => ⟨[], [(0, .str (ba nm)), (1, .int .i64 (n : Int)), (2, .bool e), (6, .int .i64 0), (7, .bool false), (37, .bool b)]⟩) (fun b => σ) ?_ (fun b hj => ?_)
  ·skip
   refine AWp_regL ?_
   refine zg3 ?_
   refine zsp 18 rfl (fun h3 => ?_) fun h3 => ?_
   ·rw [h3]; replace h3 := zcl h3
    refine zg10 ?_
    refine zg9 ?_
    refine zon ?_
    refine ⟨_, ?_, ⟨rfl, rfl, rfl, rfl, rfl, rfl, rfl, trivial⟩, rfl⟩
    (try rw [ba_nil0, ← List.length_eq_zero_iff] at h3)
    (try rw [show ((0 : Int).toNat) = 0 from rfl] at *)
    by_cases hx : runl (ba nm) 0 = nm.length
    ·have hy := trE_iff.2 hx
     (try simp only [hy, decide_true, Bool.not_true, ne_eq, not_true, decide_false])
     first | exact (decide_eq_true (jixB_len.2 (by omega))).symm | exact (decide_eq_false (fun x => by have := jixB_len.1 x; omega)).symm
    ·have hy : ¬ trE nm = ⟨#[]⟩ := fun z => hx (trE_iff.1 z)
     (try simp only [hy, decide_false, Bool.not_false, ne_eq, not_false_iff, decide_true])
     first | exact (decide_eq_true (jixB_len.2 (by omega))).symm | exact (decide_eq_false (fun x => by have := jixB_len.1 x; omega)).symm
   ·rw [h3]; replace h3 := zcl h3
    refine zg5 ?_
    refine zsp 23 rfl (fun h4 => ?_) fun h4 => ?_
    ·rw [h4]; replace h4 := zcl h4
     refine zg10 ?_
     refine zg4 ?_
     refine zon ?_
     refine ⟨_, ?_, ⟨rfl, rfl, rfl, rfl, rfl, rfl, rfl, trivial⟩, rfl⟩
     (try rw [ba_nil0, ← List.length_eq_zero_iff] at h3)
     (try rw [show ((0 : Int).toNat) = 0 from rfl] at *)
     by_cases hx : runl (ba nm) 0 = nm.length
     ·have hy := trE_iff.2 hx
      (try simp only [hy, decide_true, Bool.not_true, ne_eq, not_true, decide_false])
      first | exact (decide_eq_true (jixB_len.2 (by omega))).symm | exact (decide_eq_false (fun x => by have := jixB_len.1 x; omega)).symm
     ·have hy : ¬ trE nm = ⟨#[]⟩ := fun z => hx (trE_iff.1 z)
      (try simp only [hy, decide_false, Bool.not_false, ne_eq, not_false_iff, decide_true])
      first | exact (decide_eq_true (jixB_len.2 (by omega))).symm | exact (decide_eq_false (fun x => by have := jixB_len.1 x; omega)).symm
    ·rw [h4]; replace h4 := zcl h4
     refine zg4 ?_
     refine zsp 27 rfl (fun h5 => ?_) fun h5 => ?_
     ·rw [h5]; replace h5 := zcl h5
      refine zg6 ?_
      refine zsp 33 rfl (fun h6 => ?_) fun h6 => ?_
      ·rw [h6]; replace h6 := zcl h6
       refine zv4 ?_
       refine ⟨_, ?_, ⟨rfl, rfl, rfl, rfl, rfl, rfl, rfl, trivial⟩, rfl⟩
       (try rw [ba_nil0, ← List.length_eq_zero_iff] at h3)
       (try rw [show ((0 : Int).toNat) = 0 from rfl] at *)
       by_cases hx : runl (ba nm) 0 = nm.length
       ·have hy := trE_iff.2 hx
        (try simp only [hy, decide_true, Bool.not_true, ne_eq, not_true, decide_false])
        first | exact (decide_eq_true (jixB_len.2 (by omega))).symm | exact (decide_eq_false (fun x => by have := jixB_len.1 x; omega)).symm
       ·have hy : ¬ trE nm = ⟨#[]⟩ := fun z => hx (trE_iff.1 z)
        (try simp only [hy, decide_false, Bool.not_false, ne_eq, not_false_iff, decide_true])
        first | exact (decide_eq_true (jixB_len.2 (by omega))).symm | exact (decide_eq_false (fun x => by have := jixB_len.1 x; omega)).symm
      ·rw [h6]; replace h6 := zcl h6
       refine zg1 ?_
       refine ztG rfl rfl (zc rfl (trimN_c nm _ hs)) ?_
       refine zv2 ?_
       refine ⟨_, ?_, ⟨rfl, rfl, rfl, rfl, rfl, rfl, rfl, trivial⟩, rfl⟩
       (try rw [ba_nil0, ← List.length_eq_zero_iff] at h3)
       (try rw [show ((0 : Int).toNat) = 0 from rfl] at *)
       by_cases hx : runl (ba nm) 0 = nm.length
       ·have hy := trE_iff.2 hx
        (try simp only [hy, decide_true, Bool.not_true, ne_eq, not_true, decide_false])
        first | exact (decide_eq_true (jixB_len.2 (by omega))).symm | exact (decide_eq_false (fun x => by have := jixB_len.1 x; omega)).symm
       ·have hy : ¬ trE nm = ⟨#[]⟩ := fun z => hx (trE_iff.1 z)
        (try simp only [hy, decide_false, Bool.not_false, ne_eq, not_false_iff, decide_true])
        first | exact (decide_eq_true (jixB_len.2 (by omega))).symm | exact (decide_eq_false (fun x => by have := jixB_len.1 x; omega)).symm
     ·rw [h5]; replace h5 := zcl h5
      refine zg7 ?_
      refine ztG rfl rfl (zc rfl (trimN_c nm _ hs)) ?_
      refine zv2 ?_
      refine ⟨_, ?_, ⟨rfl, rfl, rfl, rfl, rfl, rfl, rfl, trivial⟩, rfl⟩
      (try rw [ba_nil0, ← List.length_eq_zero_iff] at h3)
      (try rw [show ((0 : Int).toNat) = 0 from rfl] at *)
      by_cases hx : runl (ba nm) 0 = nm.length
      ·have hy := trE_iff.2 hx
       (try simp only [hy, decide_true, Bool.not_true, ne_eq, not_true, decide_false])
       first | exact (decide_eq_true (jixB_len.2 (by omega))).symm | exact (decide_eq_false (fun x => by have := jixB_len.1 x; omega)).symm
      ·have hy : ¬ trE nm = ⟨#[]⟩ := fun z => hx (trE_iff.1 z)
       (try simp only [hy, decide_false, Bool.not_false, ne_eq, not_false_iff, decide_true])
       first | exact (decide_eq_true (jixB_len.2 (by omega))).symm | exact (decide_eq_false (fun x => by have := jixB_len.1 x; omega)).symm
  ·skip
   subst hj
   refine AWp_cond rfl (fun h7 => ?_) (fun h7 => ?_)
   ·(try rw [h7]); replace h7 := zcl h7
    refine zw2 ?_
    refine zrt ?_
    obtain ⟨q1, q2⟩ := jix_bad (n := n) hj0 (by simpa using h7)
    rw [q1, q2]
    exact ResQ_20 rfl rfl hcl (by simp [AV.lt, AV.ltL]) (Ret_of rfl)
   ·(try rw [h7]); replace h7 := zcl h7
    have hb : ¬ jixB nm := by simpa using h7
    obtain ⟨hd, hl0, hl18⟩ := jixB_aD hb
    have hv0 := valL_bd hd
    refine AWp_skip ?_
    refine zu1 ?_
    refine zt rfl (zc rfl (atoi_c (ba nm) (valL 0 nm) _ (by omega) (by rw [ba_toList]; exact atoi_dig hd hl0))) ?_
    refine zv5 ?_
    refine AWp_seq ?_
    refine zu8 ?_
    refine zsp 50 rfl (fun h8 => ?_) fun h8 => ?_
    ·rw [h8]; replace h8 := zcl h8
     refine zv8 ?_
     refine AWp_condT rfl ?_
     refine zw2 ?_
     refine zrt ?_
     obtain ⟨q1, q2⟩ := jix_big (n := n) (e := e) hj0 hb (fun x => x.elim (by omega) (fun y => by have := y.1; omega))
     rw [q1, q2]
     exact ResQ_20 rfl rfl hcl (by simp [AV.lt, AV.ltL]) (Ret_of rfl)
    ·rw [h8]; replace h8 := zcl h8
     refine zg4 ?_
     refine zsp 54 rfl (fun h9 => ?_) fun h9 => ?_
     ·rw [h9]; replace h9 := zcl h9
      refine zv4 ?_
      refine AWp_cond rfl (fun h10 => ?_) (fun h10 => ?_)
      ·(try rw [h10]); replace h10 := zcl h10
       refine zw2 ?_
       refine zrt ?_
       have he : e = false := by simpa using h10
       subst he
       obtain ⟨q1, q2⟩ := jix_big (n := n) hj0 hb (fun x => x.elim (by omega) (fun y => by cases y.2))
       rw [q1, q2]
       exact ResQ_20 rfl rfl hcl (by simp [AV.lt, AV.ltL]) (Ret_of rfl)
      ·(try rw [h10]); replace h10 := zcl h10
       refine AWp_skip ?_
       refine zw3 ?_
       refine zrt ?_
       have he : e = true := by simpa using h10
       subst he
       obtain ⟨q1, q2⟩ := jix_val (n := n) hj0 hb hv0.1 (.inr ⟨h9, rfl⟩)
       rw [q1, q2]
       exact ResQ_20 rfl rfl hcl (by simp [AV.lt, AV.ltL]) (Ret_of rfl)
     ·rw [h9]; replace h9 := zcl h9
      refine zv4 ?_
      refine AWp_condF rfl ?_
      refine AWp_skip ?_
      refine zw3 ?_
      refine zrt ?_
      obtain ⟨q1, q2⟩ := jix_val (n := n) hj0 hb hv0.1 (.inl (by omega))
      rw [q1, q2]
      exact ResQ_20 rfl rfl hcl (by simp [AV.lt, AV.ltL]) (Ret_of rfl)

theorem code_k (k : Int) (σ : List AO) (h0 : 1 ≤ k) (h14 : k ≤ 14) : ACalls Tryz.prog 18 [.iface 69 (.int .i64 k)] σ (Ret (.int .i64 k) σ) := by
 refine ACalls_body Tryz.func18 rfl Tryz.ntmps18 (res1 Tryz.results18) (Nat.le_of_ble_eq_true rfl) (fun hcl hal => ?_)
 refine zw1 ?_
 refine AWp_seq ?_
 refine zw2 ?_
 refine AWp_cond rfl (fun h1 => ?_) (fun h1 => ?_)
 ·(try rw [h1]); replace h1 := zcl h1
  cases h1
 ·(try rw [h1]); replace h1 := zcl h1
  refine AWp_skip ?_
  refine AWp_seq ?_
  refine zw1 ?_
  refine AWp_block ?_
  -- loop 0 LIVE 0:param 2:assign 3:assign
  refine AWp_loop (ι := Nat) (fun i => 1 ≤ i ∧ (i : Int) ≤ k) (fun i => ⟨[], [(0, .iface 69 (.int .i64 k)), (2, .int .i64 0), (3, .int .i64 (i : Int))]⟩) (fun i => σ) (fun i => 15 - i) (1) (⟨by omega, by omega⟩) ?_ rfl (fun i hi => ?_)
  ·exact ⟨rfl, rfl, rfl, rfl, trivial⟩
  obtain ⟨hi1, hi2⟩ := hi
  refine AWp_seq ?_
  refine zw2 ?_
  refine AWp_cond rfl (fun h2 => ?_) (fun h2 => ?_)
  ·(try rw [h2]); replace h2 := zcl h2
   refine AWp_skip ?_
   refine AWp_seq ?_
   refine AWp_block ?_
   refine zu3 ?_
   refine zt rfl (op_eqII rfl Tryz.underlying35 (by kernel_rfl) Tryz.underlying69 rfl rfl) ?_
   refine zon ?_
   refine AWp_cond rfl (fun h3 => ?_) (fun h3 => ?_)
   ·(try rw [h3]); replace h3 := zcl h3
    refine zw2 ?_
    refine zrt ?_
    refine ResQ_10 rfl hcl trivial (Ret_of ?_)
    congr 1; omega
   ·(try rw [h3]); replace h3 := zcl h3
    refine AWp_skip ?_
    refine AWp_regL ?_
    refine zv3 ?_
    refine ⟨i + 1, σ.length, ⟨by omega, by omega⟩, by omega, Nat.le_refl _, ⟨rfl, rfl, rfl, ?_, trivial⟩, hcl, ?_, List.take_length⟩
    ·rfl
    ·simp [ltE, AV.lt]
  ·(try rw [h2]); replace h2 := zcl h2
   refine AWp_exit ?_
   refine zw1 ?_
   refine zrt ?_
   exfalso; omega
end Lg
set_option maxRecDepth 20000
set_option maxHeartbeats 4000000
namespace Lg
open Go Go.Proofs Go.RowKit
variable [GLay] 
theorem rptr_c (s : BL) (σ : List AO) (hs : s.length ≤ 1000000) : ACalls Tryz.prog 34 [.str (ba s)] σ (Ret (.tup [.sl false 1 (srow (pN s)), .int .i64 (pEi s)]) σ) := by
 refine ACalls_body Tryz.func34 rfl Tryz.ntmps34 (res2 Tryz.results34) (Nat.le_of_ble_eq_true rfl) (fun hcl hal => ?_)
 have hbz : (ba s).size = s.length := ba_size s
 refine zw2 ?_
 refine AWp_seq ?_
 refine zw2 ?_
 refine AWp_cond rfl (fun h1 => ?_) (fun h1 => ?_)
 ·(try rw [h1]); replace h1 := zcl h1
  have hs0 : s = [] := ba_nil.1 h1
  refine zw2 ?_
  refine AWp_slotLe 2 rfl (AVle.nils false 1) ?_ (by decide)
  refine zrt ?_
  subst hs0
  exact ResQ_20 rfl rfl hcl (by simp [AV.lt, AV.ltL, AV.ltLL]) (Ret_of rfl)
 ·(try rw [h1]); replace h1 := zcl h1
  have hs0 : ¬ s = [] := fun e => h1 (ba_nil.2 e)
  have hsl : 0 < s.length := List.length_pos_iff.2 hs0
  refine AWp_skip ?_
  refine AWp_seq ?_
  refine zw3 ?_
  refine AWp_cond rfl (fun h2 => ?_) (fun h2 => ?_)
  ·(try rw [h2]); replace h2 := zcl h2
   have h47 : ¬ s[0]? = some 47 := fun e => h2 ((g47 hsl).1 e)
   refine zw2 ?_
   refine AWp_slotLe 2 rfl (AVle.nils false 1) ?_ (by decide)
   refine zrt ?_
   have hE : pE s = some 0 := by unfold pE; rw [if_neg hs0, if_pos h47]
   rw [pEi_s hE, pN_bad hs0 hE]
   exact ResQ_20 rfl rfl hcl (by simp [AV.lt, AV.ltL, AV.ltLL]) (Ret_of rfl)
  ·(try rw [h2]); replace h2 := zcl h2
   have h47 : s[0]? = some 47 := (g47 hsl).2 h2
   refine AWp_skip ?_
   refine zw1 ?_
   refine AWp_seq ?_
   refine AWp_seq ?_
   refine AWp_ghostT 4 1 rfl ?_ (by decide)
   refine AWp_regL ?_
   refine zv1 ?_
   refine AWp_block ?_
   -- loop 0 LIVE 0:param 2:assign 3:assign 4:assign 5:assign
   refine AWp_loop (ι := Nat × List BL × Nat) (fun z => PAt s z.1 z.2.1) (fun z => ⟨[], [(0, .str (ba s)), (4, .arr (σ.length + 0) z.2.2 1 0 z.2.1.length), (5, .int .i64 (z.1 : Int))]⟩) (fun z => σ ++ [.arr 1 z.2.2 (srow z.2.1).flatten]) (fun z => s.length - z.1) ((0, [], 0)) (PAt.zero s) ?_ rfl (fun z hz => ?_)
   ·exact ⟨rfl, rfl, rfl, rfl, trivial⟩
   obtain ⟨i, L, g⟩ := z
   simp only at hz ⊢
   have hzl := hz.le
   have hzn := hz.len
   have z1 : ∀ c : UInt8, (ByteArray.mk #[c]).size = 1 := fun c => rfl
   refine AWp_seq ?_
   refine zw4 ?_
   refine AWp_cond rfl (fun h3 => ?_) (fun h3 => ?_)
   ·(try rw [h3]); replace h3 := zcl h3
    refine AWp_skip ?_
    refine AWp_seq ?_
    refine AWp_block ?_
    refine zw4 ?_
    refine AWp_seq ?_
    refine zw2 ?_
    refine AWp_cond rfl (fun h4 => ?_) (fun h4 => ?_)
    ·(try rw [h4]); replace h4 := zcl h4
     have hz47 := (g47 (show i < s.length by omega)).2 h4
     refine zu1 ?_
     refine zt rfl (op_buildSlice [[_]] rfl Tryz.underlying31 Tryz.sizeOf9 Tryz.zeroValue9 rfl (by decide) (by decide) rfl rfl rfl rfl rfl) ?_
     refine zt rfl (op_appendArrT rfl 0 (sz := 1) (m := 1) (len := L.length) (cs := [.str ⟨#[]⟩]) rfl (.inr ⟨_, rfl⟩) Tryz.underlying31 Tryz.underlying31 Tryz.type9 rfl rfl rfl (by decide) rfl rfl (by rw [sflat_len, Nat.mul_one]) rfl rfl rfl (by show (L.length + 1) * 16 ≤ _; omega) (by omega) rfl) ?_
     refine zv1 ?_
     refine AWp_exit ?_
     refine AWp_regL ?_
     refine zv3 ?_
     have hp9 := hz.slash hz47
     refine ⟨(i + 1, L ++ [[]], g + 1), σ.length + 1, hp9, by have := hp9.le; simp only; omega, by simp, ⟨rfl, rfl, by rw [List.length_append]; rfl, rfl, trivial⟩, closed_own 1 hcl ?_, ?_, ?_⟩
     ·simp [ownLt, AO.cells, ltL_append, AV.ltL, AV.lt, flat_lt]
     ·simp [ltE, AV.lt]
     ·refine (take_own 1).trans ?_
      rw [srow_snoc]; rfl
    ·(try rw [h4]); replace h4 := zcl h4
     have hn47 : ¬ s[i]? = some 47 := fun e => h4 ((g47 (show i < s.length by omega)).1 e)
     have hi1 : 1 ≤ i := by rcases Nat.eq_zero_or_pos i with e | e; subst e; exact absurd h47 hn47; exact e
     obtain ⟨ps, q, hLq⟩ := hz.last hi1
     have hqs := hz.el q (by rw [hLq]; simp)
     have hLl := hz.len
     subst hLq
     have hLp : 1 ≤ (ps ++ [q]).length := by rw [List.length_append]; simp
     have hqz : (ba q).size = q.length := ba_size q
     have hlst := srow_last ps q
     refine AWp_skip ?_
     refine AWp_seq ?_
     refine zw2 ?_
     refine AWp_cond rfl (fun h5 => ?_) (fun h5 => ?_)
     ·(try rw [h5]); replace h5 := zcl h5
      have hz126 := (g126 (show i < s.length by omega)).2 h5
      refine AWp_seq ?_
      refine zw5 ?_
      refine AWp_cond rfl (fun h6 => ?_) (fun h6 => ?_)
      ·(try rw [h6]); replace h6 := zcl h6
       refine zw3 ?_
       refine AWp_slotLe 2 rfl (AVle.nils false 1) ?_ (by decide)
       refine zrt ?_
       have ht : tbad s i = true := tbad_t (show i < s.length by omega) h5 (.inl (by omega))
       have hE : pE s = some i := pE_at hs0 h47 (show i < s.length by omega) ht hz.bad
       rw [pEi_s hE, pN_bad hs0 hE]
       exact ResQ_2 rfl rfl hcl (by simp [AV.lt, AV.ltL, AV.ltLL]) (Ret_of rfl)
      ·(try rw [h6]); replace h6 := zcl h6
       refine AWp_skip ?_
       refine zw3 ?_
       refine AWp_seq ?_
       refine zu5 ?_
       refine zsp 40 rfl (fun h7 => ?_) fun h7 => ?_
       ·rw [h7]; replace h7 := zcl h7
        refine zv5 ?_
        refine AWp_cond rfl (fun h8 => ?_) (fun h8 => ?_)
        ·(try rw [h8]); replace h8 := zcl h8
         refine zw4 ?_
         refine AWp_slotLe 2 rfl (AVle.nils false 1) ?_ (by decide)
         refine zrt ?_
         have ht : tbad s i = true := tbad_t (show i < s.length by omega) h5 (.inr ⟨h7, h8⟩)
         have hE : pE s = some i := pE_at hs0 h47 (show i < s.length by omega) ht hz.bad
         rw [pEi_s hE, pN_bad hs0 hE]
         exact ResQ_2 rfl rfl hcl (by simp [AV.lt, AV.ltL, AV.ltLL]) (Ret_of (by rw [show (i : Int) + 1 - 1 = i by omega]; rfl))
        ·(try rw [h8]); replace h8 := zcl h8
         refine AWp_skip ?_
         refine zw1 ?_
         refine zw4 ?_
         refine AWp_cond rfl (fun h9 => ?_) (fun h9 => ?_)
         ·(try rw [h9]); replace h9 := zcl h9
          have hi9 := hz126
          refine AWp_regL ?_
          refine zv1 ?_
          refine AWp_drawL #[0, 0, 2, 6, 0, 0, 32, 96, 240, 496, 0, 1024, 3072, 8176, 16383, 32767] Tryz.mixed (by decide +kernel) (by decide +kernel) ?_
          refine zd2 ?_
          refine yP rfl rfl (op_lenS rfl rfl Tryz.underlying31 rfl rfl ⟨1, _, get_own 0⟩) (trivial) ?_
          refine zd3 ?_
          refine yP rfl rfl (op_lenS rfl rfl Tryz.underlying31 rfl rfl ⟨1, _, get_own 0⟩) (trivial) ?_
          refine zd1 ?_
          refine yP rfl rfl (op_indexAddrAO (j := 0) rfl Tryz.underlying31 Tryz.sizeOf9 rfl rfl (by omega) (by omega) rfl) (trivial) ?_
          refine yP rfl rfl (op_load1 rfl Tryz.isAgg9 (ldv_el (j := 0) (i := (ps ++ [q]).length - 1) rfl hlst (by omega))) (trivial) ?_
          refine zd1 ?_
          refine yA rfl rfl (fun _ => op_buildSlice [[_]] rfl Tryz.underlying102 Tryz.sizeOf5 Tryz.zeroValue5 rfl (by decide) (by decide) rfl rfl rfl rfl rfl) ?_
          refine yA rfl rfl (fun _ => (by first | exact op_bytesStr (b := ⟨#[126]⟩) (m := 1) rfl Tryz.underlying102 Tryz.underlying5 Tryz.underlying9 rfl rfl rfl | exact op_bytesStr (b := ⟨#[47]⟩) (m := 1) rfl Tryz.underlying102 Tryz.underlying5 Tryz.underlying9 rfl rfl rfl | exact op_bytesStr (b := ⟨#[bat (ba s) i]⟩) (m := 1) rfl Tryz.underlying102 Tryz.underlying5 Tryz.underlying9 rfl rfl rfl)) ?_
          refine yA rfl rfl (fun _ => op_cat rfl rfl rfl (by rw [hqz]; show q.length + 1 ≤ _; omega)) ?_
          refine yP rfl rfl (op_indexAddrAO (j := 0) rfl Tryz.underlying31 Tryz.sizeOf9 rfl rfl (by omega) (by omega) rfl) (trivial) ?_
          refine yEN rfl rfl rfl (op_storeEl (j := 0) (i := (ps ++ [q]).length - 1) rfl Tryz.sizeOf9 rfl rfl (by omega) rfl (by rw [sflat_len]; omega)) (⟨.inl rfl, ⟨.inl rfl, ⟨.inl rfl, ⟨.inl rfl, ⟨.inl rfl, trivial⟩⟩⟩⟩⟩) (trivial) ?_
          refine RP.nil rfl ?_
          refine AWp_regL ?_
          refine zv3 ?_
          have hz49 := (g49 (show i + 1 < s.length by omega)).2 h8
          have hp9 := hz.esc hi1 rfl hz126 hz49 (.inr rfl)
          refine ⟨(i + 1 + 1, ps ++ [q ++ [47]], g), σ.length + 1, hp9, by have := hp9.le; simp only; omega, by simp, ⟨rfl, rfl, by rw [List.length_append, List.length_append]; rfl, rfl, trivial⟩, closed_own 1 hcl ?_, ?_, ?_⟩
          ·simp [ownLt, AO.cells]; rw [AV.ltL_iff]; intro a ha; rcases List.mem_or_eq_of_mem_set ha with h | rfl; exact (AV.ltL_iff _ _).1 (flat_lt (srow_lt _ _)) a h; trivial
          ·simp [ltE, AV.lt]
          ·refine (take_own 1).trans ?_
           rw [← srow_setl ps q (q ++ [47]), ← ba_app]; rfl
         ·(try rw [h9]); replace h9 := zcl h9
          exact absurd h8 h9
       ·rw [h7]; replace h7 := zcl h7
        refine zv5 ?_
        refine AWp_condF rfl ?_
        refine AWp_skip ?_
        refine zw1 ?_
        refine zw4 ?_
        refine AWp_cond rfl (fun h10 => ?_) (fun h10 => ?_)
        ·(try rw [h10]); replace h10 := zcl h10
         omega
        ·(try rw [h10]); replace h10 := zcl h10
         refine AWp_skip ?_
         refine AWp_drawL #[0, 0, 2, 6, 0, 0, 32, 96, 240, 496, 0, 1024, 3072, 8176, 16383, 32767] Tryz.mixed (by decide +kernel) (by decide +kernel) ?_
         refine zd2 ?_
         refine yP rfl rfl (op_lenS rfl rfl Tryz.underlying31 rfl rfl ⟨1, _, get_own 0⟩) (trivial) ?_
         refine zd3 ?_
         refine yP rfl rfl (op_lenS rfl rfl Tryz.underlying31 rfl rfl ⟨1, _, get_own 0⟩) (trivial) ?_
         refine zd1 ?_
         refine yP rfl rfl (op_indexAddrAO (j := 0) rfl Tryz.underlying31 Tryz.sizeOf9 rfl rfl (by omega) (by omega) rfl) (trivial) ?_
         refine yP rfl rfl (op_load1 rfl Tryz.isAgg9 (ldv_el (j := 0) (i := (ps ++ [q]).length - 1) rfl hlst (by omega))) (trivial) ?_
         refine zd1 ?_
         refine yA rfl rfl (fun _ => op_buildSlice [[_]] rfl Tryz.underlying102 Tryz.sizeOf5 Tryz.zeroValue5 rfl (by decide) (by decide) rfl rfl rfl rfl rfl) ?_
         refine yA rfl rfl (fun _ => (by first | exact op_bytesStr (b := ⟨#[126]⟩) (m := 1) rfl Tryz.underlying102 Tryz.underlying5 Tryz.underlying9 rfl rfl rfl | exact op_bytesStr (b := ⟨#[47]⟩) (m := 1) rfl Tryz.underlying102 Tryz.underlying5 Tryz.underlying9 rfl rfl rfl | exact op_bytesStr (b := ⟨#[bat (ba s) i]⟩) (m := 1) rfl Tryz.underlying102 Tryz.underlying5 Tryz.underlying9 rfl rfl rfl)) ?_
         refine yA rfl rfl (fun _ => op_cat rfl rfl rfl (by rw [hqz]; show q.length + 1 ≤ _; omega)) ?_
         refine yP rfl rfl (op_indexAddrAO (j := 0) rfl Tryz.underlying31 Tryz.sizeOf9 rfl rfl (by omega) (by omega) rfl) (trivial) ?_
         refine yEN rfl rfl rfl (op_storeEl (j := 0) (i := (ps ++ [q]).length - 1) rfl Tryz.sizeOf9 rfl rfl (by omega) rfl (by rw [sflat_len]; omega)) (⟨.inl rfl, ⟨.inl rfl, ⟨.inl rfl, ⟨.inl rfl, ⟨.inl rfl, trivial⟩⟩⟩⟩⟩) (trivial) ?_
         refine RP.nil rfl ?_
         refine AWp_regL ?_
         refine zv3 ?_
         have hz48 := (g48 (show i + 1 < s.length by omega)).2 h7
         have hp9 := hz.esc hi1 rfl hz126 hz48 (.inl rfl)
         refine ⟨(i + 1 + 1, ps ++ [q ++ [126]], g), σ.length + 1, hp9, by have := hp9.le; simp only; omega, by simp, ⟨rfl, rfl, by rw [List.length_append, List.length_append]; rfl, rfl, trivial⟩, closed_own 1 hcl ?_, ?_, ?_⟩
         ·simp [ownLt, AO.cells]; rw [AV.ltL_iff]; intro a ha; rcases List.mem_or_eq_of_mem_set ha with h | rfl; exact (AV.ltL_iff _ _).1 (flat_lt (srow_lt _ _)) a h; trivial
         ·simp [ltE, AV.lt]
         ·refine (take_own 1).trans ?_
          rw [← srow_setl ps q (q ++ [126]), ← ba_app]; rfl
     ·(try rw [h5]); replace h5 := zcl h5
      have hn126 : ¬ s[i]? = some 126 := fun e => h5 ((g126 (show i < s.length by omega)).1 e)
      refine AWp_skip ?_
      refine AWp_drawL #[0, 0, 2, 6, 0, 0, 32, 96, 240, 496, 0, 1024, 3072, 8176, 16383, 32767] Tryz.mixed (by decide +kernel) (by decide +kernel) ?_
      refine zd2 ?_
      refine yP rfl rfl (op_lenS rfl rfl Tryz.underlying31 rfl rfl ⟨1, _, get_own 0⟩) (trivial) ?_
      refine zd3 ?_
      refine yP rfl rfl (op_lenS rfl rfl Tryz.underlying31 rfl rfl ⟨1, _, get_own 0⟩) (trivial) ?_
      refine zd1 ?_
      refine yP rfl rfl (op_indexAddrAO (j := 0) rfl Tryz.underlying31 Tryz.sizeOf9 rfl rfl (by omega) (by omega) rfl) (trivial) ?_
      refine yP rfl rfl (op_load1 rfl Tryz.isAgg9 (ldv_el (j := 0) (i := (ps ++ [q]).length - 1) rfl hlst (by omega))) (trivial) ?_
      refine zd1 ?_
      refine yA rfl rfl (fun _ => op_buildSlice [[_]] rfl Tryz.underlying102 Tryz.sizeOf5 Tryz.zeroValue5 rfl (by decide) (by decide) rfl rfl rfl rfl rfl) ?_
      refine yA rfl rfl (fun _ => (by first | exact op_bytesStr (b := ⟨#[126]⟩) (m := 1) rfl Tryz.underlying102 Tryz.underlying5 Tryz.underlying9 rfl rfl rfl | exact op_bytesStr (b := ⟨#[47]⟩) (m := 1) rfl Tryz.underlying102 Tryz.underlying5 Tryz.underlying9 rfl rfl rfl | exact op_bytesStr (b := ⟨#[bat (ba s) i]⟩) (m := 1) rfl Tryz.underlying102 Tryz.underlying5 Tryz.underlying9 rfl rfl rfl)) ?_
      refine yA rfl rfl (fun _ => op_cat rfl rfl rfl (by rw [hqz]; show q.length + 1 ≤ _; omega)) ?_
      refine yP rfl rfl (op_indexAddrAO (j := 0) rfl Tryz.underlying31 Tryz.sizeOf9 rfl rfl (by omega) (by omega) rfl) (trivial) ?_
      refine yEN rfl rfl rfl (op_storeEl (j := 0) (i := (ps ++ [q]).length - 1) rfl Tryz.sizeOf9 rfl rfl (by omega) rfl (by rw [sflat_len]; omega)) (⟨.inl rfl, ⟨.inl rfl, ⟨.inl rfl, ⟨.inl rfl, ⟨.inl rfl, trivial⟩⟩⟩⟩⟩) (trivial) ?_
      refine RP.nil rfl ?_
      refine AWp_regL ?_
      refine zv3 ?_
      have hzb : s[i]? = some (bat (ba s) i) := (get_is (show i < s.length by omega)).2 rfl
      have hp9 := hz.byte hi1 rfl hzb (fun e => hn47 (hzb.trans (congrArg some e))) (fun e => hn126 (hzb.trans (congrArg some e)))
      refine ⟨(i + 1, ps ++ [q ++ [bat (ba s) i]], g), σ.length + 1, hp9, by have := hp9.le; simp only; omega, by simp, ⟨rfl, rfl, by rw [List.length_append, List.length_append]; rfl, rfl, trivial⟩, closed_own 1 hcl ?_, ?_, ?_⟩
      ·simp [ownLt, AO.cells]; rw [AV.ltL_iff]; intro a ha; rcases List.mem_or_eq_of_mem_set ha with h | rfl; exact (AV.ltL_iff _ _).1 (flat_lt (srow_lt _ _)) a h; trivial
      ·simp [ltE, AV.lt]
      ·refine (take_own 1).trans ?_
       rw [← srow_setl ps q (q ++ [bat (ba s) i]), ← ba_app]; rfl
   ·(try rw [h3]); replace h3 := zcl h3
    refine AWp_exit ?_
    refine AWp_seq ?_
    have hie : i = s.length := by omega
    subst hie
    obtain ⟨hE, hN⟩ := hz.done hs0 h47
    refine AWp_freezeAO 4 0 g 1 L.length (srow L) rfl rfl (srow_el _) (srow_len _) (by decide) ?_ (by decide)
    refine AWp_regL ?_
    refine zv3 ?_
    refine zrt ?_
    rw [hN, pEi_n hE]
    exact ResQ_2 rfl rfl hcl (by simp [AV.lt, AV.ltL]) (Ret_of rfl)
end Lg
namespace Lg
open Go Go.RowKit
variable [GLay]
variable {P : Program} {N : Nat} {σ l : List AO} {e : Env} {Q : QA} {o : Oper}
section asserts
variable {T U U' E : TypeId} {x : Operand} {v : AV}
end asserts
end Lg
set_option maxRecDepth 20000
set_option maxHeartbeats 4000000
namespace Lg
open Go Go.Proofs Go.RowKit
variable [GLay] 
def errV : Option (Int × Int) → AV
  | none => .nili
  | some z => .iface 87 (.pp [.int .i64 z.1, .int .i64 z.2])
end Lg
set_option maxRecDepth 20000
set_option maxHeartbeats 4000000
namespace Lg
open Go Go.Proofs Go.RowKit
variable [GLay] 
end Lg
set_option maxRecDepth 20000
set_option maxHeartbeats 4000000
namespace Lg
open Go Go.Proofs Go.RowKit
variable [GLay] 
theorem rfind_c (v : JV) (key : ByteArray) (σ : List AO) (hb : v.m.length ≤ 1000000) : ACalls Tryz.prog 48 [.agg (vcells v), .str key] σ (FindR v key σ) := by
 refine ACalls_bodyC Tryz.func48 rfl Tryz.ntmps48 (by rw [Tryz.results48]; exact (.ck Tryz.isAgg28 Tryz.sizeOf28 (.t .nil))) (Nat.le_of_ble_eq_true rfl) (fun hcl hal => ?_)
 have hmc := mcells_length v.m
 rw [vcells_eq v]
 refine zw3 ?_
 refine AWp_seq ?_
 refine zw1 ?_
 refine AWp_block ?_
 -- loop 0 LIVE 1:param 2:box 4:alloc 5:assign 6:assign
 refine AWp_loop (ι := Nat) (fun i => i ≤ v.m.length ∧ ∀ (j : Nat) q, j < i → v.m[j]? = some q → ¬ (v.kind = 5 ∧ q.1 = key)) (fun i => ⟨[], [(1, .str key), (2, .ptr (σ.length + 0) 0), (4, .ptr (σ.length + 1) 0), (6, .int .i64 (i : Int))]⟩) (fun i => σ ++ [_, _]) (fun i => v.m.length - i) (0) (⟨Nat.zero_le _, fun j q hj => absurd hj (by omega)⟩) ?_ rfl (fun i hi => ?_)
 ·exact ⟨rfl, rfl, rfl, rfl, rfl, trivial⟩
 obtain ⟨hi1, hi2⟩ := hi
 refine AWp_seq ?_
 refine zw5 ?_
 refine AWp_cond rfl (fun h1 => ?_) (fun h1 => ?_)
 ·(try rw [h1]); replace h1 := zcl h1
  obtain ⟨q, hq⟩ : ∃ q, v.m[i]? = some q := ⟨_, List.getElem?_eq_getElem (show i < v.m.length by omega)⟩
  refine AWp_skip ?_
  refine AWp_seq ?_
  refine AWp_block ?_
  refine zu4 ?_
  refine zsp 17 rfl (fun h2 => ?_) fun h2 => ?_
  ·rw [h2]; replace h2 := zcl h2
   refine zv9 ?_
   refine AWp_cond rfl (fun h3 => ?_) (fun h3 => ?_)
   ·(try rw [h3]); replace h3 := zcl h3
    refine zu5 ?_
    rw [vcells_eq q.2]
    refine zv3 ?_
    refine zrt ?_
    have hf : jfind v key = some q.2 := by rw [jfind, if_pos h2, find_some (fun j y hj hy => by have := hi2 j y hj hy; simpa [h2] using this) hq (by simpa using h3)]; rfl
    refine RQ_ret (rkvs_cons (rkv_ck rfl rfl rfl) (rkvs_cons (rkv_t rfl) rfl)) hcl ?_ ⟨rfl, _, _, rfl, ?_, ?_⟩
    ·simp [rks, AV.lt, AV.ltL, ofConst1]
    ·rw [hf]; show AVleL _ (vcells q.2); rw [vcells_eq]; exact AVleL.refl _
    ·rw [hf]; rfl
   ·(try rw [h3]); replace h3 := zcl h3
    refine AWp_skip ?_
    refine AWp_regL ?_
    refine zv3 ?_
    refine ⟨i + 1, σ.length + 2, ⟨by omega, fun j y hj hy => ?_⟩, by omega, by simp, ⟨rfl, rfl, rfl, rfl, rfl, trivial⟩, closed_own 2 hcl ?_, ?_, take_own 2⟩
    ·by_cases e : j = i
     ·subst e; rw [hq] at hy; cases hy; exact fun h => h3 h.2
     ·exact hi2 j y (by omega) hy
    ·simp [ownLt, AO.cells, AV.ltL, AV.lt, ofConst1]
    ·simp [ltE, AV.lt]
  ·rw [h2]; replace h2 := zcl h2
   refine zv9 ?_
   refine AWp_condF rfl ?_
   refine AWp_skip ?_
   refine AWp_regL ?_
   refine zv3 ?_
   refine ⟨i + 1, σ.length + 2, ⟨by omega, fun j y hj hy => ?_⟩, by omega, by simp, ⟨rfl, rfl, rfl, rfl, rfl, trivial⟩, closed_own 2 hcl ?_, ?_, take_own 2⟩
   ·by_cases e : j = i
    ·subst e; rw [hq] at hy; cases hy; exact fun h => h2 h.1
    ·exact hi2 j y (by omega) hy
   ·simp [ownLt, AO.cells, AV.ltL, AV.lt, ofConst1]
   ·simp [ltE, AV.lt]
 ·(try rw [h1]); replace h1 := zcl h1
  refine AWp_exit ?_
  refine zw3 ?_
  refine zrt ?_
  have hf : jfind v key = none := by
   by_cases hk : v.kind = 5
   ·rw [jfind, if_pos hk, find_none (fun j y hy => by have := hi2 j y (by have := (List.getElem?_eq_some_iff.1 hy).1; omega) hy; simpa [hk] using this)]; rfl
   ·simp [jfind, hk]
  refine RQ_ret (rkvs_cons (rkv_ck rfl rfl rfl) (rkvs_cons (rkv_t rfl) rfl)) hcl ?_ ⟨rfl, _, _, rfl, ?_, ?_⟩
  ·simp [rks, AV.lt, AV.ltL, ofConst1]
  ·rw [hf]; exact vle8 nilL nilM
  ·rw [hf]; rfl
end Lg
set_option maxRecDepth 20000
set_option maxHeartbeats 4000000
namespace Lg
open Go Go.Proofs Go.RowKit
variable [GLay] 
theorem rptrQ_c (s : ByteArray) (σ : List AO) (hs : s.size ≤ 1000000) : ACalls Tryz.prog 34 [.str s] σ (Ret (.tup [.sl false 1 (srow (pN s.data.toList)), .int .i64 (pEi s.data.toList)]) σ) := by
  have hl : s.data.toList.length = s.size := Array.length_toList ..
  have h := rptr_c s.data.toList σ (by omega)
  rw [← ba_eta] at h; exact h
theorem rfindQ_c (v : JV) (key : ByteArray) (cs : List AV) (σ : List AO) (hc : vcells v = cs) (hb : v.m.length ≤ 1000000) : ACalls Tryz.prog 48 [.agg cs, .str key] σ (Ret (.tup [.agg (vcells (jfD v key)), .bool (jfB v key)]) σ) := by
  subst hc; exact FindR.ret (rfind_c v key σ hb)
end Lg
set_option maxRecDepth 20000
set_option maxHeartbeats 4000000
namespace Lg
open Go Go.Proofs Go.RowKit
variable [GLay] 
theorem rsame_any (n : Nat) : ∀ (x y : JV) (σ : List AO), jsize x ≤ n → jb x → jb y → ACalls Tryz.prog 17 [.agg (vcells x), .agg (vcells y)] σ (Ret (.bool (pb (x = y))) σ) := by
 induction n with
 | zero => intro x y σ h; have := jsize_pos x; omega
 | succ n ih =>
 intro x y σ hn hjx hjy
 have hvs := jsize_eq x
 have hl := lsize_nn x.l
 have hm := msize_nn x.m
 obtain ⟨hb1, hb2, hb3, hb4, hb5, hb6⟩ := (jb_eq x).1 hjx
 obtain ⟨hc1, hc2, hc3, hc4, hc5, hc6⟩ := (jb_eq y).1 hjy
 have hxl := lcells_length x.l
 have hyl := lcells_length y.l
 have hxm := mcells_length x.m
 have hym := mcells_length y.m
 refine ACalls_body Tryz.func17 rfl Tryz.ntmps17 (res1 Tryz.results17) (Nat.le_of_ble_eq_true rfl) (fun hcl hal => ?_)
 rw [vcells_eq x, vcells_eq y]
 refine zw3 ?_
 refine AWp_seq ?_
 refine zu6 ?_
 refine zsp 14 rfl (fun h1 => ?_) fun h1 => ?_
 ·rw [h1]; replace h1 := zcl h1
  refine zg30 ?_
  refine zg8 ?_
  refine zon ?_
  refine AWp_condT rfl ?_
  refine zw1 ?_
  refine zrt ?_
  refine ResQ_1 rfl hcl trivial (Ret_of (bool_f ?_))
  rw [jv_ext]; intro hj; obtain ⟨j1, j2, ⟨j3, j4, j5⟩, j6, j7, j8⟩ := hj
  simp_all
 ·rw [h1]; replace h1 := zcl h1
  refine zg7 ?_
  refine zsp 21 rfl (fun h2 => ?_) fun h2 => ?_
  ·rw [h2]; replace h2 := zcl h2
   refine zg30 ?_
   refine zg1 ?_
   refine zon ?_
   refine AWp_condT rfl ?_
   refine zw1 ?_
   refine zrt ?_
   refine ResQ_1 rfl hcl trivial (Ret_of (bool_f ?_))
   rw [jv_ext]; intro hj; obtain ⟨j1, j2, ⟨j3, j4, j5⟩, j6, j7, j8⟩ := hj
   simp_all
  ·rw [h2]; replace h2 := zcl h2
   refine zg4 ?_
   refine ztG rfl rfl (op_neS rfl Tryz.underlying24 (by kernel_rfl) (by kernel_rfl) (.bool _ _ _ _ _ _ _ _ (by decide) rfl Tryz.underlying4 (.str _ _ _ _ _ _ _ _ (by decide) rfl Tryz.underlying9 (.int _ _ _ _ _ _ _ _ _ _ (by decide) rfl Tryz.underlying3 (.nil _)))) rfl rfl) ?_
   refine zg2 ?_
   refine zsp 28 rfl (fun h3 => ?_) fun h3 => ?_
   ·rw [h3]; replace h3 := zcl h3
    refine zg20 ?_
    refine zg4 ?_
    refine zon ?_
    refine AWp_condT rfl ?_
    refine zw1 ?_
    refine zrt ?_
    refine ResQ_1 rfl hcl trivial (Ret_of (bool_f ?_))
    rw [jv_ext]; intro hj; obtain ⟨j1, j2, ⟨j3, j4, j5⟩, j6, j7, j8⟩ := hj
    simp_all
   ·rw [h3]; replace h3 := zcl h3
    refine zg7 ?_
    refine zsp 35 rfl (fun h4 => ?_) fun h4 => ?_
    ·rw [h4]; replace h4 := zcl h4
     refine zg10 ?_
     refine zg7 ?_
     refine zon ?_
     refine AWp_condT rfl ?_
     refine zw1 ?_
     refine zrt ?_
     refine ResQ_1 rfl hcl trivial (Ret_of (bool_f ?_))
     rw [jv_ext]; intro hj; obtain ⟨j1, j2, ⟨j3, j4, j5⟩, j6, j7, j8⟩ := hj
     simp_all
    ·rw [h4]; replace h4 := zcl h4
     refine zg9 ?_
     refine zsp 44 rfl (fun h5 => ?_) fun h5 => ?_
     ·rw [h5]; replace h5 := zcl h5
      refine zv8 ?_
      refine AWp_condT rfl ?_
      refine zw1 ?_
      refine zrt ?_
      refine ResQ_1 rfl hcl trivial (Ret_of (bool_f ?_))
      rw [jv_ext]; intro hj; obtain ⟨j1, j2, ⟨j3, j4, j5⟩, j6, j7, j8⟩ := hj
      simp_all
     ·rw [h5]; replace h5 := zcl h5
      refine zv8 ?_
      refine AWp_cond rfl (fun h6 => ?_) (fun h6 => ?_)
      ·(try rw [h6]); replace h6 := zcl h6
       refine zw1 ?_
       refine zrt ?_
       refine ResQ_1 rfl hcl trivial (Ret_of (bool_f ?_))
       rw [jv_ext]; intro hj; obtain ⟨j1, j2, ⟨j3, j4, j5⟩, j6, j7, j8⟩ := hj
       simp_all
      ·(try rw [h6]); replace h6 := zcl h6
       have hlen1 : x.l.length = y.l.length := by omega
       have hlen2 : x.m.length = y.m.length := by omega
       refine AWp_skip ?_
       refine AWp_seq ?_
       refine zw1 ?_
       refine AWp_block ?_
       -- loop 0 LIVE 2:box 3:box 4:assign 5:assign
       refine AWp_loop (ι := Nat) (fun i => i ≤ x.l.length ∧ ∀ j : Nat, j < i → x.l[j]? = y.l[j]?) (fun i => ⟨[], [(2, .ptr (σ.length + 0) 0), (3, .ptr (σ.length + 1) 0), (5, .int .i64 (i : Int))]⟩) (fun i => σ ++ [_, _]) (fun i => x.l.length - i) (0) (⟨Nat.zero_le _, fun j hj => absurd hj (by omega)⟩) ?_ rfl (fun i hi => ?_)
       ·exact ⟨rfl, rfl, rfl, rfl, trivial⟩
       obtain ⟨hi1, hi2⟩ := hi
       refine AWp_seq ?_
       refine zw5 ?_
       refine AWp_cond rfl (fun h7 => ?_) (fun h7 => ?_)
       ·(try rw [h7]); replace h7 := zcl h7
        obtain ⟨u, hu⟩ : ∃ u, x.l[i]? = some u := ⟨_, List.getElem?_eq_getElem (show i < x.l.length by omega)⟩
        obtain ⟨w, hw⟩ : ∃ w, y.l[i]? = some w := ⟨_, List.getElem?_eq_getElem (show i < y.l.length by omega)⟩
        have hlm := lsize_mem hu
        refine AWp_skip ?_
        refine AWp_seq ?_
        refine AWp_block ?_
        refine AWp_seq ?_
        refine AWp_drawL #[0, 1, 0, 7, 15, 0, 32, 0, 224, 480, 1023, 2047] Tryz.mixed (by decide +kernel) (by decide +kernel) ?_
        refine zd1 ?_
        refine zp1 ?_
        refine zd1 ?_
        refine yA rfl rfl (fun _ => op_indexAddr rfl Tryz.underlying25 Tryz.sizeOf28 rfl rfl (by omega) (lcells_get hu)) ?_
        rw [vcells_eq u]
        refine zp1 ?_
        refine zd1 ?_
        refine zp1 ?_
        refine zd1 ?_
        refine yA rfl rfl (fun _ => op_indexAddr rfl Tryz.underlying25 Tryz.sizeOf28 rfl rfl (by omega) (lcells_get hw)) ?_
        rw [vcells_eq w]
        refine zp1 ?_
        refine yP rfl rfl (zc rfl (AC2 (vcells_eq u) (vcells_eq w) (ih u w _ (by omega) (lb_get hb5 hu) (lb_get hc5 hw)))) (trivial) ?_
        refine zd1 ?_
        refine RP.nil rfl ?_
        refine zw2 ?_
        refine AWp_cond rfl (fun h8 => ?_) (fun h8 => ?_)
        ·(try rw [h8]); replace h8 := zcl h8
         refine zw1 ?_
         refine zrt ?_
         refine ResQ_1 rfl hcl trivial (Ret_of (bool_f fun e => ?_))
         rw [e] at hu; rw [hu] at hw; cases hw; rw [pb_t rfl] at h8; cases h8
        ·(try rw [h8]); replace h8 := zcl h8
         refine AWp_skip ?_
         refine AWp_regL ?_
         refine zv3 ?_
         have huw := (pb_iff _).1 h8
         refine ⟨i + 1, σ.length + 2, ⟨by omega, fun j hj => ?_⟩, by omega, by simp, ⟨rfl, rfl, rfl, rfl, trivial⟩, closed_own 2 hcl ?_, ?_, take_own 2⟩
         ·by_cases e : j = i
          ·subst e; rw [hu, hw, huw]
          ·exact hi2 j (by omega)
         ·simp [ownLt, AO.cells, AV.ltL, AV.lt]
         ·simp [ltE, AV.lt]
       ·(try rw [h7]); replace h7 := zcl h7
        have hL : x.l = y.l := list_eq_of hlen1 fun j hj => hi2 j (by omega)
        clear hi2 hi1 h7
        refine AWp_exit ?_
        refine AWp_seq ?_
        refine zw1 ?_
        refine AWp_block ?_
        -- loop 1 LIVE 2:box 3:box 4:assign 7:assign
        refine AWp_loop (ι := Nat) (fun i => i ≤ x.m.length ∧ ∀ j : Nat, j < i → x.m[j]? = y.m[j]?) (fun i => ⟨[], [(2, .ptr (σ.length + 0) 0), (3, .ptr (σ.length + 1) 0), (7, .int .i64 (i : Int))]⟩) (fun i => σ ++ [_, _]) (fun i => x.m.length - i) (0) (⟨Nat.zero_le _, fun j hj => absurd hj (by omega)⟩) ?_ rfl (fun i hi => ?_)
        ·exact ⟨rfl, rfl, rfl, rfl, trivial⟩
        obtain ⟨hi3, hi4⟩ := hi
        refine AWp_seq ?_
        refine zw5 ?_
        refine AWp_cond rfl (fun h9 => ?_) (fun h9 => ?_)
        ·(try rw [h9]); replace h9 := zcl h9
         obtain ⟨u, hu⟩ : ∃ u, x.m[i]? = some u := ⟨_, List.getElem?_eq_getElem (show i < x.m.length by omega)⟩
         obtain ⟨w, hw⟩ : ∃ w, y.m[i]? = some w := ⟨_, List.getElem?_eq_getElem (show i < y.m.length by omega)⟩
         have hms := msize_mem hu
         refine AWp_skip ?_
         refine AWp_seq ?_
         refine AWp_block ?_
         refine AWp_seq ?_
         refine AWp_drawL #[0, 1, 0, 7, 15, 31, 0, 64, 0, 448, 960, 1984, 4095, 8191] Tryz.mixed (by decide +kernel) (by decide +kernel) ?_
         refine zd1 ?_
         refine zp1 ?_
         refine zd1 ?_
         refine yA rfl rfl (fun _ => op_indexAddr rfl Tryz.underlying26 Tryz.sizeOf64 rfl rfl (by omega) (mcells_get hu)) ?_
         refine zd1 ?_
         rw [vcells_eq u.2]
         refine zp1 ?_
         refine zd1 ?_
         refine zp1 ?_
         refine zd1 ?_
         refine yA rfl rfl (fun _ => op_indexAddr rfl Tryz.underlying26 Tryz.sizeOf64 rfl rfl (by omega) (mcells_get hw)) ?_
         refine zd1 ?_
         rw [vcells_eq w.2]
         refine zp1 ?_
         refine yP rfl rfl (zc rfl (AC2 (vcells_eq u.2) (vcells_eq w.2) (ih u.2 w.2 _ (by omega) (mb_get hb6 hu).2 (mb_get hc6 hw).2))) (trivial) ?_
         refine zd1 ?_
         refine RP.nil rfl ?_
         refine AWp_seq ?_
         refine AWp_drawL #[0, 1, 3, 7, 15, 7, 63, 127, 255, 7, 519, 7, 3591, 7687, 15879, 32767, 65535] Tryz.mixed (by decide +kernel) (by decide +kernel) ?_
         refine zd3 ?_
         refine zspr 95 rfl (fun h10 => ?_) fun h10 => ?_
         ·rw [h10]; replace h10 := zcl h10
          refine zd10 ?_
          refine zd4 ?_
          refine RP.nil rfl ?_
          refine AWp_condT rfl ?_
          refine zw1 ?_
          refine zrt ?_
          refine ResQ_1 rfl hcl trivial (Ret_of (bool_f fun e => ?_))
          rw [e] at hu; rw [hu] at hw; cases hw; rw [pb_t rfl] at h10; cases h10
         ·rw [h10]; replace h10 := zcl h10
          refine zd1 ?_
          refine zp1 ?_
          refine zd1 ?_
          refine yAG rfl rfl rfl (fun _ => op_indexAddr rfl Tryz.underlying26 Tryz.sizeOf64 rfl rfl (by omega) (mcells_get hu)) ?_
          refine zd1 ?_
          refine zp1 ?_
          refine zd1 ?_
          refine zp1 ?_
          refine zd1 ?_
          refine yAG rfl rfl rfl (fun _ => op_indexAddr rfl Tryz.underlying26 Tryz.sizeOf64 rfl rfl (by omega) (mcells_get hw)) ?_
          refine zd1 ?_
          refine zp1 ?_
          refine zd2 ?_
          refine RP.nil rfl ?_
          refine AWp_cond rfl (fun h11 => ?_) (fun h11 => ?_)
          ·(try rw [h11]); replace h11 := zcl h11
           refine zw1 ?_
           refine zrt ?_
           refine ResQ_1 rfl hcl trivial (Ret_of (bool_f fun e => ?_))
           rw [e] at hu; rw [hu] at hw; cases hw; exact h11 rfl
          ·(try rw [h11]); replace h11 := zcl h11
           refine AWp_skip ?_
           refine AWp_regL ?_
           refine zv3 ?_
           have huw := (pb_iff _).1 h10
           refine ⟨i + 1, σ.length + 2, ⟨by omega, fun j hj => ?_⟩, by omega, by simp, ⟨rfl, rfl, rfl, rfl, trivial⟩, closed_own 2 hcl ?_, ?_, take_own 2⟩
           ·by_cases e : j = i
            ·subst e; rw [hu, hw, Prod.ext h11 huw]
            ·exact hi4 j (by omega)
           ·simp [ownLt, AO.cells, AV.ltL, AV.lt]
           ·simp [ltE, AV.lt]
        ·(try rw [h9]); replace h9 := zcl h9
         have hM : x.m = y.m := list_eq_of hlen2 fun j hj => hi4 j (by omega)
         refine AWp_exit ?_
         refine zw1 ?_
         refine zrt ?_
         refine ResQ_1 rfl hcl trivial (Ret_of (bool_t ((jv_ext x y).2 ?_)))
         simp_all
end Lg
set_option maxRecDepth 20000
set_option maxHeartbeats 4000000
namespace Lg
open Go Go.Proofs Go.RowKit
variable [GLay] 
theorem rget_0 (f : Bool) (v : JV) (cs : List AV) (σ : List AO) (hc : vcells v = cs) : ACalls Tryz.prog 20 [.agg cs, .sl f 1 (srow [])] σ (Ret (.tup [.agg (vcells (jget [] v).1), .bool (jget [] v).2]) σ) := by
 refine ACalls_bodyC Tryz.func20 rfl Tryz.ntmps20 (by rw [Tryz.results20]; exact (.ck Tryz.isAgg28 Tryz.sizeOf28 (.t .nil))) (Nat.le_of_ble_eq_true rfl) (fun hcl hal => ?_)
 subst hc
 rw [vcells_eq v]
 refine zw3 ?_
 refine AWp_seq ?_
 refine zu2 ?_
 refine zt rfl (op_eqlT rfl rfl rfl rfl) ?_
 refine zon ?_
 refine AWp_condT rfl ?_
 refine zw3 ?_
 refine zrt ?_
 rw [jget, vcells_eq v]
 exact RQ_ret (rkvs_cons (rkv_ck rfl rfl rfl) (rkvs_cons (rkv_t rfl) rfl)) hcl (by simp [rks, AV.lt, AV.ltL]) ⟨rfl, rfl⟩

theorem rget_1 (r : List BL) (ih : ∀ (v : JV) (cs : List AV) (es : List (List AV)) (σ : List AO), vcells v = cs → es = srow r → jb v → ACalls Tryz.prog 20 [.agg cs, .sl false 1 es] σ (Ret (.tup [.agg (vcells (jget r v).1), .bool (jget r v).2]) σ)) (f : Bool) (nm : BL) (v : JV) (cs : List AV) (σ : List AO) (hc : vcells v = cs) (hjb : jb v) (hnm : nm.length ≤ 1000000) : ACalls Tryz.prog 20 [.agg cs, .sl f 1 (srow (nm :: r))] σ (Ret (.tup [.agg (vcells (jget (nm :: r) v).1), .bool (jget (nm :: r) v).2]) σ) := by
 obtain ⟨hb1, hb2, hb3, hb4, hb5, hb6⟩ := (jb_eq v).1 hjb
 have hll := lcells_length v.l
 have hix : ∀ (nm : BL) (τ : List AO), nm.length ≤ 1000000 → ACalls Tryz.prog 47 [.str (ba nm), .int .i64 ((lcells v.l).length : Int), .bool false] τ (Ret (.tup [.int .i64 (jixN nm v.l.length false), .bool (jixO nm v.l.length false)]) τ) := by
  intro nm τ hm; rw [hll]; exact ridx_c nm v.l.length false τ hm (by omega)
 refine ACalls_bodyC Tryz.func20 rfl Tryz.ntmps20 (by rw [Tryz.results20]; exact (.ck Tryz.isAgg28 Tryz.sizeOf28 (.t .nil))) (Nat.le_of_ble_eq_true rfl) (fun hcl hal => ?_)
 subst hc
 rw [vcells_eq v]
 have hsl : 1 ≤ (srow (nm :: r)).length := by rw [srow_len, List.length_cons]; omega
 refine zw3 ?_
 refine AWp_seq ?_
 refine zu2 ?_
 refine zt rfl (op_eqlF rfl rfl rfl (by rw [srow_len, List.length_cons]; omega)) ?_
 refine zon ?_
 refine AWp_condF rfl ?_
 refine AWp_skip ?_
 refine AWp_seq ?_
 refine zw3 ?_
 refine AWp_cond rfl (fun h1 => ?_) (fun h1 => ?_)
 ·(try rw [h1]); replace h1 := zcl h1
  refine AWp_seq ?_
  refine AWp_drawL #[0, 1, 3, 0, 8, 24, 63, 127, 255, 255, 511, 2047] Tryz.mixed (by decide +kernel) (by decide +kernel) ?_
  refine zd1 ?_
  refine yA rfl rfl (fun _ => op_indexAddr rfl Tryz.underlying31 Tryz.sizeOf9 rfl rfl (by omega) (rfl)) ?_
  refine zp1 ?_
  refine zd1 ?_
  refine zp1 ?_
  refine zd1 ?_
  refine yP rfl rfl (zc rfl (hix nm _ hnm)) (trivial) ?_
  refine zd5 ?_
  refine RP.nil rfl ?_
  refine AWp_seq ?_
  refine zw2 ?_
  refine AWp_cond rfl (fun h2 => ?_) (fun h2 => ?_)
  ·(try rw [h2]); replace h2 := zcl h2
   refine zw3 ?_
   refine AWp_boxLeO 1 (bs' := [.int .i64 vz.kind, .bool vz.b, .bool vz.n.neg, .str vz.n.digits, .int .i64 vz.n.exp, .str vz.s, .sl false 8 (lcells vz.l), .sl false 9 (mcells vz.m)]) rfl ⟨AVle.refl _, AVle.refl _, AVle.refl _, AVle.refl _, AVle.refl _, AVle.refl _, nilL, nilM, trivial⟩ ?_
   refine zrt ?_
   rw [jget_no4 h1 (by simpa using h2), vcells_eq]
   exact RQ_ret (rkvs_cons (rkv_ck rfl rfl rfl) (rkvs_cons (rkv_t rfl) rfl)) hcl (by simp [rks, AV.lt, AV.ltL]) ⟨rfl, rfl⟩
  ·(try rw [h2]); replace h2 := zcl h2
   obtain ⟨k, hk, hkl⟩ := jix_nat (nm := nm) (n := v.l.length) (by simpa using h2)
   obtain ⟨a, ha⟩ : ∃ a, v.l[k]? = some a := ⟨_, List.getElem?_eq_getElem hkl⟩
   rw [hk]
   refine AWp_skip ?_
   refine AWp_seq ?_
   refine AWp_drawL #[0, 1, 0, 7, 15, 0, 32, 127, 255, 255, 1023, 2047] Tryz.mixed (by decide +kernel) (by decide +kernel) ?_
   refine zd1 ?_
   refine zp1 ?_
   refine zd2 ?_
   rw [vcells_eq a]
   refine zp1 ?_
   refine zd1 ?_
   refine yA rfl rfl (fun _ => (by first | exact op_sliceSl _ _ rfl Tryz.underlying31 Tryz.sizeOf9 rfl (by first | exact ⟨_, rfl⟩ | rfl) (by first | exact ⟨_, rfl⟩ | rfl) (by omega) (by omega) (by omega) | exact op_sliceArr _ _ rfl Tryz.underlying31 Tryz.sizeOf9 rfl GET (by first | exact ⟨_, rfl⟩ | rfl) (by first | exact ⟨_, rfl⟩ | rfl) (by omega) (by omega) (by omega))) ?_
   refine yP rfl rfl (zc rfl (ih a _ _ _ (vcells_eq a) (srow_tail nm r) (lb_get hb5 ha))) (trivial) ?_
   rw [vcells_eq (jget r a).1]
   refine zd2 ?_
   refine yEN rfl rfl rfl (zoa) (⟨.inl rfl, ⟨.inl rfl, ⟨.inl rfl, trivial⟩⟩⟩) (trivial) ?_
   refine zd1 ?_
   refine RP.nil rfl ?_
   refine zrt ?_
   rw [jget_4 h1 (by simpa using h2) hk ha, vcells_eq]
   exact RQ_ret (rkvs_cons (rkv_ck rfl rfl rfl) (rkvs_cons (rkv_t rfl) rfl)) hcl (by simp [rks, AV.lt, AV.ltL]) ⟨rfl, rfl⟩
 ·(try rw [h1]); replace h1 := zcl h1
  refine AWp_skip ?_
  refine AWp_seq ?_
  refine AWp_drawL #[0, 0, 2, 6, 15, 31, 63, 63, 0, 383, 1023] Tryz.mixed (by decide +kernel) (by decide +kernel) ?_
  refine zp1 ?_
  refine zd1 ?_
  refine yA rfl rfl (fun _ => op_indexAddr rfl Tryz.underlying31 Tryz.sizeOf9 rfl rfl (by omega) (rfl)) ?_
  refine zp1 ?_
  refine yP rfl rfl (zc rfl (rfindQ_c v (ba nm) _ _ (vcells_eq v) hb4)) (trivial) ?_
  rw [vcells_eq (jfD v (ba nm))]
  refine zd3 ?_
  refine yE rfl rfl (zoa) (⟨.inr (by rw [← vcells_eq (jfD v (ba nm))]; exact zc rfl (rfindQ_c v (ba nm) _ _ (vcells_eq v) hb4)), ⟨.inr zoa, ⟨.inr zoa, trivial⟩⟩⟩) (trivial) ?_
  refine yEN rfl rfl rfl (zoa) (⟨.inl rfl, ⟨.inl rfl, ⟨.inl rfl, trivial⟩⟩⟩) (⟨rfl, trivial⟩) ?_
  refine zd1 ?_
  refine RP.nil rfl ?_
  refine AWp_seq ?_
  refine zw2 ?_
  refine AWp_cond rfl (fun h3 => ?_) (fun h3 => ?_)
  ·(try rw [h3]); replace h3 := zcl h3
   refine zw3 ?_
   refine AWp_boxLeO 1 (bs' := [.int .i64 vz.kind, .bool vz.b, .bool vz.n.neg, .str vz.n.digits, .int .i64 vz.n.exp, .str vz.s, .sl false 8 (lcells vz.l), .sl false 9 (mcells vz.m)]) rfl ⟨AVle.refl _, AVle.refl _, AVle.refl _, AVle.refl _, AVle.refl _, AVle.refl _, nilL, nilM, trivial⟩ ?_
   refine zrt ?_
   rw [jget_no5 h1 (by simpa using h3), vcells_eq]
   exact RQ_ret (rkvs_cons (rkv_ck rfl rfl rfl) (rkvs_cons (rkv_t rfl) rfl)) hcl (by simp [rks, AV.lt, AV.ltL]) ⟨rfl, rfl⟩
  ·(try rw [h3]); replace h3 := zcl h3
   refine AWp_skip ?_
   refine AWp_seq ?_
   refine AWp_drawL #[0, 0, 2, 7, 15, 15, 63, 127] Tryz.mixed (by decide +kernel) (by decide +kernel) ?_
   refine zp1 ?_
   refine zd1 ?_
   refine yA rfl rfl (fun _ => (by first | exact op_sliceSl _ _ rfl Tryz.underlying31 Tryz.sizeOf9 rfl (by first | exact ⟨_, rfl⟩ | rfl) (by first | exact ⟨_, rfl⟩ | rfl) (by omega) (by omega) (by omega) | exact op_sliceArr _ _ rfl Tryz.underlying31 Tryz.sizeOf9 rfl GET (by first | exact ⟨_, rfl⟩ | rfl) (by first | exact ⟨_, rfl⟩ | rfl) (by omega) (by omega) (by omega))) ?_
   refine yP rfl rfl (zc rfl (ih (jfD v (ba nm)) _ _ _ (vcells_eq _) (srow_tail nm r) (jfD_jb hjb))) (trivial) ?_
   rw [vcells_eq (jget r (jfD v (ba nm))).1]
   refine zd2 ?_
   refine yEN rfl rfl rfl (zoa) (⟨.inl rfl, ⟨.inl rfl, trivial⟩⟩) (trivial) ?_
   refine zd1 ?_
   refine RP.nil rfl ?_
   refine zrt ?_
   rw [jget_5 h1 (by simpa using h3), vcells_eq]
   exact RQ_ret (rkvs_cons (rkv_ck rfl rfl rfl) (rkvs_cons (rkv_t rfl) rfl)) hcl (by simp [rks, AV.lt, AV.ltL]) ⟨rfl, rfl⟩
end Lg
namespace Lg
open Go Go.RowKit
variable [GLay]
variable {P : Program} {N : Nat} {e : Env} {σ l : List AO} {Q : QA} {o : Oper}
/-! ### Slices whose capacity is known -/
theorem AVle.capA (p g sz off len cap : Nat) : AVle (.arrC p g sz off len cap) (.arr p g sz off len) := fun s v h => by
  cases h with
  | arrC _ _ _ _ _ _ _ h1 h =>
    refine .arr p g sz off len v h1 ?_
    unfold ArrAt at h ⊢
    cases hσ : s.σ[p]? with
    | none => rw [hσ] at h; exact h.elim
    | some x =>
      rw [hσ] at h
      cases x with
      | arr sz' g0 cs => exact ⟨h.1, fun e => ⟨(h.2 e).1, .inr ⟨cap, (h.2 e).2⟩⟩⟩
      | dead => trivial
      | _ => exact h.elim
theorem PW.anys {s : CS} (vs : List Value) : PW s (List.replicate vs.length .any) vs :=
  ⟨by simp, fun i c v h1 h2 => by
    rw [List.getElem?_replicate] at h1
    split at h1
    · cases h1; exact .any v
    · cases h1⟩
theorem PW.anysN {s : CS} {n : Nat} {vs : List Value} (h : vs.length = n) : PW s (List.replicate n .any) vs := h ▸ PW.anys vs
/-- New cells in a row's middle. -/
theorem splice_list {α : Type} {vs news : List α} {base i L : Nat} (h1 : i + news.length ≤ L) (h2 : base + L ≤ vs.length) :
    ((vs.take (base + i) ++ news ++ vs.drop (base + i + news.length)).drop base).take L = (((vs.drop base).take L).take i ++ news ++ ((vs.drop base).take L).drop (i + news.length)) := by
  apply List.ext_getElem?
  intro j
  simp only [List.getElem?_take, List.getElem?_drop, List.getElem?_append, List.length_append, List.length_take, List.length_drop]
  by_cases c0 : j < L
  · simp only [c0, if_true]
    by_cases c1 : j < i
    · simp only [show base + j < min (base + i) vs.length + news.length by omega, show base + j < min (base + i) vs.length by omega, show base + j < base + i by omega, show j < min i (min L (vs.length - base)) + news.length by omega,
        show j < min i (min L (vs.length - base)) by omega, c1, if_true]
    · by_cases c2 : j < i + news.length
      · simp only [show base + j < min (base + i) vs.length + news.length by omega, show ¬ base + j < min (base + i) vs.length by omega, show j < min i (min L (vs.length - base)) + news.length by omega,
          show ¬ j < min i (min L (vs.length - base)) by omega, if_true, if_false]
        congr 1; omega
      · simp only [show ¬ base + j < min (base + i) vs.length + news.length by omega, show ¬ j < min i (min L (vs.length - base)) + news.length by omega, if_false]
        rw [if_pos (by omega)]
        congr 1; omega
  · simp only [c0, if_false]
    rw [if_neg (by omega), if_neg (by omega)]
theorem PW.splice {s : CS} {cs ds : List AV} {us ws : List Value} (h : PW s cs us) (k : PW s ds ws) (i : Nat) : PW s (cs.take i ++ ds ++ cs.drop (i + ds.length)) (us.take i ++ ws ++ us.drop (i + ws.length)) := by
  rw [k.1]
  exact ((h.take i).append k).append (h.drop _)
/-- A slice of the call's own of all of an array: its capacity is now known, and all its room. -/
theorem AWp_reveal {c : Code} (t p g sz n : Nat) {cs : List AV} (hl : lookO e.l t = some (.arr p g sz 0 n)) (hσ : σ[p]? = some (.arr sz g cs)) (hcs : cs.length = n * sz) (hn : n ≠ 0) (hsz : sz ≠ 0) (ht : t < N)
    (k : ∀ cap, n ≤ cap → AWp P N c (e.put (some t) (.arrC p (g + 1) sz 0 n cap)) (σ.set p (.arr sz (g + 1) (cs ++ List.replicate ((cap - n) * sz) .any))) Q) : AWp P N c e σ Q := fun s0 s a hs gd x he => by
  subst hs
  have hplt : p < s.σ.length := (List.getElem?_eq_some_iff.1 hσ).1
  have hv := he.tmps t
  rw [show e.look t = .arr p g sz 0 n from lookO_eq hl] at hv
  obtain ⟨_, ⟨A, hA, h0⟩ | ⟨cap, hA, hlc, hfit⟩⟩ := hv.inv_arr hσ
  · exact absurd h0 hn
  · rw [Nat.zero_add] at hfit
    have hlive : s.live p := by
      unfold CS.live; rw [hσ]
      show (s.μ p).tot ≠ 0
      have : 0 < cap * sz := Nat.mul_pos (by omega) (Nat.pos_of_ne_zero hsz)
      omega
    obtain ⟨_, vs, T, hb, ht0, h7, h8, hpv⟩ := gd.rep hσ hlive
    have hcn : n * sz + (cap - n) * sz = cap * sz := by rw [← Nat.add_mul]; congr 1; omega
    obtain ⟨s', e1, e2, g', x', hμ⟩ := gd.renew hσ (g' := g + 1) (by omega) (cs' := cs ++ List.replicate ((cap - n) * sz) .any) (s.μ p) (w' := s.w) (Nat.le_refl _) rfl rfl rfl (fun b _ _ => rfl)
      (.inr ⟨.inl ⟨rfl, hlive⟩, vs, T, hb, ht0, h7, by rw [List.length_append, List.length_replicate, hcs]; omega, by
        have h9 := hpv.append (PW.anysN (s := s) (n := (cap - n) * sz) (vs := ((vs.drop (s.μ p).base).drop cs.length).take ((cap - n) * sz)) (by simp; omega))
        rw [List.length_append, List.length_replicate, List.take_add]
        exact h9⟩)
    have hv' : V s' (.arrC p (g + 1) sz 0 n cap) (a.eval (.tmp t)) := by
      rw [hA]
      refine .arrC _ _ _ _ _ _ _ rfl (.mk (cs := cs ++ List.replicate ((cap - n) * sz) .any) (by rw [e1]; simp [hplt]) ⟨rfl, by rw [hμ], hlc, by rw [hμ, Nat.zero_add]; exact hfit⟩)
    have := k cap hlc s0 s' a e1 g' (x.trans x') (by
      have h1 := (he.mono gd x').put (some t) hv' (fun d hd => by cases hd; exact ht)
      rwa [put_self (by rw [he.size]; exact ht)] at h1)
    rwa [e2] at this
theorem op_capC {T E : TypeId} {x : Operand} {p g sz off len cap : Nat} {cs : List AV} {c : Array TypeId} (ho : o.op = .call { callee := .builtin .cap, args := #[x], argTypes := c }) (hc : c[0]? = some T) (hu : P.underlying T = some (.slice E))
    (hx : opO e x = some (.arrC p g sz off len cap)) (hσ : σ[p]? = some (.arr sz g cs)) : AOp P σ e o (.int .i64 cap) σ :=
  .of_run fun s a hs _ hv => by
    subst hs
    have h1 := (opO_eq hx ▸ hv x (by simp [ho, Op.operands, Call.operands])).inv_arrC hσ
    refine ⟨.int .i64 cap, ?_, .int _ _⟩
    simp [execOp, ho, resolve, invoke, builtin, h1.2.1, Builtin.cap_, hc, run_underlying hu, goInt]
/-- 's[l:h]' of a slice whose capacity is known. -/
theorem op_sliceC {T E : TypeId} {x : Operand} {lo hi : Option Operand} {sz p g off len cap : Nat} {cs : List AV} (l h : Int) (ho : o.op = .slice T x lo hi none) (hu : P.underlying T = some (.slice E))
    (hsz : ∀ w, (Go.sizeOf E).run P w = Result.ok sz w) (hx : opO e x = some (.arrC p g sz off len cap)) (hσ : σ[p]? = some (.arr sz g cs))
    (hl : bnd e 0 l lo) (hh : bnd e (len : Nat) h hi) (h0 : 0 ≤ l) (h1 : l ≤ h) (h2 : h ≤ cap) (h3 : l < cap) :
    AOp P σ e o (.arrC p g sz (off + l.toNat) (h.toNat - l.toNat) (cap - l.toNat)) σ :=
  .of_run fun s a hs _ hv => by
    subst hs
    have hxv := (opO_eq hx ▸ hv x (by simp [ho, Op.operands])).inv_arrC hσ
    have hl' := hl.ev (s := s) (a := a) (fun y hy => hv y (by subst hy; simp [ho, Op.operands]))
    have hh' := hh.ev (s := s) (a := a) (fun y hy => hv y (by subst hy; simp [ho, Op.operands]))
    obtain ⟨_, h5, h6, h7⟩ := hxv
    refine ⟨_, by simp only [execOp, ho, h5, Sem.run_bind, Option.map_none]; rw [run_slice_slice (cap := cap) hu hsz hl' hh' h0 h1 h2]; rfl, ?_⟩
    rw [if_neg (by omega)]
    refine .arrC p g sz _ _ _ _ rfl ?_
    unfold ArrAt; rw [hσ]
    refine ⟨Nat.le_refl _, fun _ => ⟨rfl, ?_, by omega, ?_⟩⟩
    · simp only [Option.map_some, add_none]; rw [Nat.add_mul, Nat.add_assoc]
    · rw [show off + l.toNat + (cap - l.toNat) = off + cap by omega]; exact h7
theorem run_copy {w : World} {t u ty E : TypeId} {sz m n dLen cap b off : Nat} {x : Value} {news cur : List Value} {T : TypeId} (ht : P.underlying t = some (.slice E)) (hsz : ∀ w, (Go.sizeOf E).run P w = Result.ok sz w) (hm : (Builtin.lenOf x).run P w = .ok m w) (hn : min m dLen = n)
    (hf : (Builtin.firstCells sz n x).run P w = .ok news.toArray w) (hb : w.heap[b]? = some (.cells cur.toArray T (0, 0))) (hfit : off + news.length ≤ cur.length) (h1 : ∀ v ∈ news, v.oneCell' = true) :
    (Builtin.copy_ #[t, u] ty #[.slice (some ⟨b, off, none⟩) dLen cap, x]).run P w = .ok (.int .i64 n) (w.setRow b (cur.take off ++ news ++ cur.drop (off + news.length)).toArray) := by
  have hst := run_storeCells_at P b off T news 0 cur.toArray w hb (by simpa using hfit) h1
  simp only [Nat.add_zero] at hst
  subst hn
  have e : Nat.min m dLen = min m dLen := rfl
  simp [Builtin.copy_, run_underlying ht, hsz, hm, e, hf, goInt, hst]
/-- What copy reads: n elements. -/
def SrcN (P : Program) (σ : List AO) (y : AV) (sz m n : Nat) (ds : List AV) : Prop :=
  ∀ (s : CS) (c : Value), s.σ = σ → Good s → V s y c → ∃ vs : List Value, PW s ds vs ∧ (Builtin.lenOf c).run P s.w = .ok m s.w ∧ (Builtin.firstCells sz n c).run P s.w = .ok vs.toArray s.w
theorem src_all {y : AV} {sz m : Nat} {ds : List AV} (h : srcv σ y = some (ds, m)) (hz : szv y sz) : SrcN P σ y sz m m ds := fun s c hs g hv => by
  subst hs
  obtain ⟨vs, h1, h2, h3⟩ := hv.src g h hz
  exact ⟨vs, h1, h2, h3 s.w rfl⟩
theorem src_arr {p g sz off len n : Nat} {cs : List AV} (hσ : σ[p]? = some (.arr sz g cs)) (hn : n ≤ len) (hfit : (off + len) * sz ≤ cs.length) : SrcN P σ (.arr p g sz off len) sz len n ((cs.drop (off * sz)).take (n * sz)) := fun s c hs gd hv => by
  subst hs
  have hfl : off * sz + len * sz ≤ cs.length := by rw [← Nat.add_mul]; exact hfit
  have hnl : n * sz ≤ len * sz := Nat.mul_le_mul_right _ hn
  have tk_some : ∀ (k : Nat) (ds : List AV), k ≤ ds.length → tk k ds = some (ds.take k) := by
    intro k
    induction k with
    | zero => intro ds _; simp [tk]
    | succ k ih =>
      intro ds h
      cases ds with
      | nil => simp at h
      | cons d ds => simp only [tk, ih ds (by simpa using h), Option.map_some, List.take_succ_cons]
  have hs1 : srcv s.σ (.arr p g sz off len) = some ((cs.drop (off * sz)).take (len * sz), len) := by
    simp only [srcv, hσ, if_true, tk_some _ _ (show len * sz ≤ (cs.drop (off * sz)).length by rw [List.length_drop]; omega), Option.map_some]
  have hs2 : srcv s.σ (.arr p g sz off n) = some ((cs.drop (off * sz)).take (n * sz), n) := by
    simp only [srcv, hσ, if_true, tk_some _ _ (show n * sz ≤ (cs.drop (off * sz)).length by rw [List.length_drop]; omega), Option.map_some]
  obtain ⟨vs1, _, hl1, _⟩ := V.src (P := P) gd hv hs1 (show szv _ sz from rfl)
  obtain ⟨_, ⟨A, hA, h0⟩ | ⟨cap, hA, hlc, hft⟩⟩ := hv.inv_arr hσ
  · subst h0
    have : n = 0 := by omega
    subst this
    obtain ⟨vs, h1, _, h3⟩ := V.src (P := P) gd hv hs1 (show szv _ sz from rfl)
    exact ⟨vs, h1, hl1, h3 s.w rfl⟩
  · have hv2 : V s (.arr p g sz off n) (.slice (some ⟨(s.μ p).b, (s.μ p).base + off * sz, none⟩) n cap) := by
      refine .arr _ _ _ _ _ _ rfl ?_
      unfold ArrAt; rw [hσ]
      exact ⟨Nat.le_refl _, fun _ => ⟨rfl, .inr ⟨cap, rfl, by omega, hft⟩⟩⟩
    obtain ⟨vs, h1, _, h3⟩ := V.src (P := P) gd hv2 hs2 (show szv _ sz from rfl)
    refine ⟨vs, h1, hl1, ?_⟩
    have h4 := h3 s.w rfl
    rw [hA]
    have e : ∀ q : Nat, Builtin.firstCells sz n (.slice (some ⟨(s.μ p).b, (s.μ p).base + off * sz, none⟩) q cap) = Builtin.firstCells sz n (.slice (some ⟨(s.μ p).b, (s.μ p).base + off * sz, none⟩) n cap) := fun q => rfl
    rw [e]; exact h4
/-- copy into an array of the call's own. -/
theorem op_copyN {x y : Operand} {t u E : TypeId} {sz m n p g off len : Nat} {cs ds : List AV} {yv : AV} (ho : o.op = .call { callee := .builtin .copy, args := #[x, y], argTypes := #[t, u] }) (ht : P.underlying t = some (.slice E)) (hsz : ∀ w, (Go.sizeOf E).run P w = Result.ok sz w)
    (hx : opO e x = some (.arr p g sz off len)) (hσ : σ[p]? = some (.arr sz g cs)) (hlen : 0 < len) (hsz0 : sz ≠ 0) (hfit : (off + len) * sz ≤ cs.length) (hy : opO e y = some yv) (hsrc : SrcN P σ yv sz m n ds) (hn : min m len = n) (hds : ds.length = n * sz) (h1 : ∀ a ∈ ds, a.one = true ∨ a = .any)
    (hone : ∀ (s : CS) vs, PW s ds vs → Good s → s.σ = σ → (∃ c, V s yv c ∧ (Builtin.firstCells sz n c).run P s.w = .ok (List.toArray vs) s.w) → ∀ v ∈ vs, v.oneCell' = true) :
    AOp P σ e o (.int .i64 n) (σ.set p (.arr sz g (cs.take (off * sz) ++ ds ++ cs.drop (off * sz + ds.length)))) := by
  intro s a hs gd hv K Q hk _
  subst hs
  have hxv := (opO_eq hx ▸ hv x (by simp [ho, Op.operands, Call.operands])).inv_arr hσ
  have hyv := opO_eq hy ▸ hv y (by simp [ho, Op.operands, Call.operands])
  obtain ⟨_, ⟨A, hA, h0⟩ | ⟨cap, hA, hlc, hft⟩⟩ := hxv
  · omega
  · have hlive : s.live p := by
      unfold CS.live; rw [hσ]
      show (s.μ p).tot ≠ 0
      have : 0 < (off + cap) * sz := Nat.mul_pos (by omega) (Nat.pos_of_ne_zero hsz0)
      omega
    obtain ⟨_, vs, T, hb, ht0, h7, h8, hpv⟩ := gd.rep hσ hlive
    obtain ⟨ws, hp, hl, hf⟩ := hsrc s _ rfl gd hyv
    have hwl : ws.length = ds.length := hp.1
    have hnl : n * sz ≤ len * sz := Nat.mul_le_mul_right _ (by omega)
    have hfl : off * sz + len * sz ≤ cs.length := by rw [← Nat.add_mul]; exact hfit
    have hrun := run_copy (ty := o.type) (u := u) (dLen := len) (cap := cap) (b := (s.μ p).b) (off := (s.μ p).base + off * sz) (x := a.eval y) (news := ws) (cur := vs) (T := T) ht hsz hl hn hf hb (by omega) (hone s ws hp gd rfl ⟨_, hyv, hf⟩)
    have hsp := splice_list (vs := vs) (news := ws) (base := (s.μ p).base) (i := off * sz) (L := cs.length) (by omega) (by omega)
    have hps := hpv.splice hp (off * sz)
    have hcl : (cs.take (off * sz) ++ ds ++ cs.drop (off * sz + ds.length)).length = cs.length := by
      simp only [List.length_append, List.length_take, List.length_drop]; omega
    obtain ⟨s', e1, e2, g', x', hμ, hok⟩ := gd.setObj hσ hlive (o' := .arr sz g (cs.take (off * sz) ++ ds ++ cs.drop (off * sz + ds.length))) (.arr _ _ _ _ _ (Nat.le_refl _) fun _ => hcl.symm) rfl
      (vs := vs.take ((s.μ p).base + off * sz) ++ ws ++ vs.drop ((s.μ p).base + off * sz + ws.length)) ⟨ht0, by simp only [List.length_append, List.length_take, List.length_drop]; omega, by rw [hcl]; exact h8, by rw [hcl, hsp]; exact hps⟩
    refine wp_value (w' := s'.w) (cv := .int .i64 n) ?_ (hk _ _ s' ⟨rfl, e1⟩ g' x' (.int _ _))
    rw [e2]
    simp only [execOp, ho, resolve, invoke, builtin, Sem.run_bind, Sem.run_pure, Result.andThen_ok, List.map_toArray, List.map_cons, List.map_nil, hA]
    rw [hrun]; rfl
end Lg
namespace Lg
open Go Go.RowKit
variable [GLay]
variable {P : Program} {N : Nat} {e : Env} {σ l : List AO} {Q : QA} {o : Oper}
theorem op_copyA {x y : Operand} {t u E : TypeId} {sz m n p g off len : Nat} {cs ds : List AV} {yv : AV} (ho : o.op = .call { callee := .builtin .copy, args := #[x, y], argTypes := #[t, u] }) (ht : P.underlying t = some (.slice E)) (hsz : ∀ w, (Go.sizeOf E).run P w = Result.ok sz w)
    (hx : opO e x = some (.arr p g sz off len)) (hσ : σ[p]? = some (.arr sz g cs)) (hlen : 0 < len) (hsz0 : sz ≠ 0) (hfit : (off + len) * sz ≤ cs.length) (hy : opO e y = some yv) (hsrc : SrcN P σ yv sz m n ds) (hn : min m len = n) (hds : ds.length = n * sz) (h1 : ones ds = true) :
    AOp P σ e o (.int .i64 n) (σ.set p (.arr sz g (cs.take (off * sz) ++ ds ++ cs.drop (off * sz + ds.length)))) :=
  op_copyN ho ht hsz hx hσ hlen hsz0 hfit hy hsrc hn hds (fun a ha => .inl ((ones_iff _).1 h1 a ha)) (fun s vs hp _ _ _ => one_of_pw hp h1)
/-- append of as many zeros: a slice whose capacity is known, and too small. -/
theorem run_appendZ {w : World} {t u ty E : TypeId} {i : TypeInfo} {z : Value} {A : Option Addr} {sLen sCap k : Nat} {olds : List Value}
    (ht : P.underlying t = some (.slice E)) (hu : P.underlying u = some (.int .i64)) (hi : P.info? E = some i) (hz : i.zero = some z) (hz0 : z.cells.size = i.size)
    (hfo : (Builtin.firstCells i.size sLen (.slice A sLen sCap)).run P w.drew = .ok olds.toArray w.drew)
    (hroom : sCap < sLen + k) (h63 : sLen + k ≤ 9223372036854775807) (hby : (sLen + k) * i.bytes ≤ 140737488355328) :
    ∃ rest : List Value, ∃ cap : Nat, sLen + k ≤ cap ∧ rest.length = (cap - sLen) * z.cells.size ∧ (Builtin.append_ #[t, u] ty #[.slice A sLen sCap, .int .i64 k]).run P w =
      .ok (.slice (some ⟨w.heap.size, 0, none⟩) (sLen + k) cap) (w.drew.alloc (.cells (olds ++ rest).toArray E (0, 0))) := by
  have hn : ¬ (sLen + k ≤ sCap) := by omega
  have hfit := growslice_fits (need := sLen + k) (old := sCap) (bytes := i.bytes) hroom hby
  have hkb : k * i.bytes ≤ 140737488355328 := Nat.le_trans (Nat.mul_le_mul_right _ (by omega)) hby
  have h48' : ¬ (281474976710656 < Builtin.nextslicecap (sLen + k) sCap * i.bytes) := by omega
  have hk63 : k ≤ 9223372036854775807 := by omega
  have hwr : IntKind.i64.wrap (k : Int) = k := wrap64_in (by omega) (by omega)
  have h63' : ¬ (9223372036854775807 < ((sLen : Int) + (k : Int))) := by omega
  have hneg : ¬ ((k : Int) < 0) := by omega
  have hlk : ¬ ((281474976710656 : Int) < (k : Int) * (i.bytes : Int)) := by
    have h0 : ((k * i.bytes : Nat) : Int) ≤ ((140737488355328 : Nat) : Int) := Int.ofNat_le.2 hkb
    rw [Int.natCast_mul] at h0
    generalize (k : Int) * (i.bytes : Int) = q at h0 ⊢
    omega
  have hmax : max (k : Int) 0 = k := by omega
  have hge := grownCap_ge w (sLen + k) sCap E
  refine ⟨((if k * i.size = 0 then #[] else Builtin.zeroCells z.cells k) ++ Builtin.zeroCells z.cells (grownCap w (sLen + k) sCap E - (sLen + k))).toList, grownCap w (sLen + k) sCap E, hge, ?_, ?_⟩
  · rw [Array.length_toList, Array.size_append, size_zeroCells]
    have : (if k * i.size = 0 then (#[] : Array Value) else Builtin.zeroCells z.cells k).size = k * z.cells.size := by
      split
      · rename_i h; rw [hz0, h]; rfl
      · exact size_zeroCells _ _
    rw [this, ← Nat.add_mul]; congr 1; omega
  · simp only [Builtin.append_, List.getElem?_toArray, List.getElem?_cons_zero, List.getElem?_cons_succ]
    by_cases hk0 : k * i.size = 0
    · simp [run_underlying ht, run_underlying hu, Go.sizeOf, typeInfo, zeroValue, hi, hz, hn, h48', asInt, asIntOf, hwr, hmax, hneg, hlk, h63', hk0, Question.forced, hfo, newRow, grownCap]
      congr 2
      apply Array.ext'
      simp
    · simp [run_underlying ht, run_underlying hu, Go.sizeOf, typeInfo, zeroValue, hi, hz, hn, h48', asInt, asIntOf, hwr, hmax, hneg, hlk, h63', hk0, Question.forced, hfo, newRow, grownCap]
      congr 2
      apply Array.ext'
      simp

/-- append of k zeros to a slice of known capacity that is too small: a new array. -/
theorem op_appendZ {x y : Operand} {t u E : TypeId} {i : TypeInfo} {z : Value} {sz p g off len cap k : Nat} {cs : List AV} (ho : o.op = .call { callee := .builtin .append, args := #[x, y], argTypes := #[t, u] })
    (ht : P.underlying t = some (.slice E)) (hu : P.underlying u = some (.int .i64)) (hi : P.info? E = some i) (hz : i.zero = some z) (hsz : i.size = sz) (hzs : z.cells.size = sz)
    (hx : opO e x = some (.arrC p g sz off len cap)) (hσ : σ[p]? = some (.arr sz g cs)) (hsz0 : sz ≠ 0) (hc0 : 0 < cap) (hfit : (off + len) * sz ≤ cs.length) (hy : opO e y = some (.int .i64 k)) (hroom : cap < len + k) (hby : (len + k) * i.bytes ≤ 140737488355328) (h63 : len + k ≤ 9223372036854775807) :
    AOp P σ e o (.arr σ.length 0 sz 0 (len + k)) (σ ++ [.arr sz 0 ((cs.drop (off * sz)).take (len * sz) ++ List.replicate (k * sz) .any)]) := by
  intro s a hs gd hv K Q hk _
  subst hs
  subst hsz
  have hxv := (opO_eq hx ▸ hv x (by simp [ho, Op.operands, Call.operands])).inv_arrC hσ
  have hyv := (opO_eq hy ▸ hv y (by simp [ho, Op.operands, Call.operands])).inv_int
  obtain ⟨_, hA, hlc, hft⟩ := hxv
  have hlive : s.live p := by
    unfold CS.live; rw [hσ]
    show (s.μ p).tot ≠ 0
    have : 0 < (off + cap) * i.size := Nat.mul_pos (by omega) (Nat.pos_of_ne_zero hsz0)
    omega
  obtain ⟨_, vs, T, hb, ht0, h7, h8, hpv⟩ := gd.rep hσ hlive
  have hfl : off * i.size + len * i.size ≤ cs.length := by rw [← Nat.add_mul]; exact hfit
  have hpo := (hpv.drop (off * i.size)).take (len * i.size)
  have hol := hpo.1.trans (show _ = len * i.size by rw [List.length_take, List.length_drop]; omega)
  obtain ⟨rest, cap', hc1, hc2, hrun⟩ := run_appendZ (ty := o.type) (A := some ⟨(s.μ p).b, (s.μ p).base + off * i.size, none⟩) (sLen := len) (sCap := cap) (k := k) (w := s.w) ht hu hi hz (by rw [hzs]) (run_firstCells_some s.w.drew i.size len _ len cap _ hol fun j v hj => by
    rw [add_none]
    rw [List.getElem?_take] at hj
    split at hj
    · rw [List.getElem?_drop, List.getElem?_take] at hj
      split at hj
      · rw [List.getElem?_drop] at hj
        show s.w.cell? _ = _
        rw [cells_get hb, Nat.add_assoc]; exact hj
      · cases hj
    · cases hj) hroom h63 hby
  generalize hol2 : List.take (len * i.size) (List.drop (off * i.size) (List.take cs.length (List.drop (s.μ p).base vs))) = olds at hrun hpo hol
  have hkl : k * i.size ≤ rest.length := by rw [hc2, hzs]; exact Nat.mul_le_mul_right _ (by omega)
  have hL : ((cs.drop (off * i.size)).take (len * i.size) ++ List.replicate (k * i.size) AV.any).length = len * i.size + k * i.size := by simp; omega
  obtain ⟨s', e1, e2, g', x', hμ⟩ := gd.newArr (sz := i.size) (cs := (cs.drop (off * i.size)).take (len * i.size) ++ List.replicate (k * i.size) .any) (vs := olds ++ rest) (by
    rw [hL, ← hol, List.take_length_add_append, hol]
    exact hpo.append (PW.anysN (by rw [List.length_take]; omega))) (by rw [hL, List.length_append, hol]; omega) E (w := s.w.drew) (Below.refl _ _).drew rfl
  refine wp_value (w' := s'.w) (cv := .slice (some ⟨s.w.heap.size, 0, none⟩) (len + k) cap') ?_ (hk _ _ s' ⟨rfl, e1⟩ g' x' ?_)
  · rw [e2]
    simp only [execOp, ho, resolve, invoke, builtin, Sem.run_bind, Sem.run_pure, Result.andThen_ok, List.map_toArray, List.map_cons, List.map_nil, hA, hyv]
    rw [hrun]; rfl
  · refine V.newArr (cs := (cs.drop (off * i.size)).take (len * i.size) ++ List.replicate (k * i.size) .any) (by rw [e1]; simp) hμ hc1 ?_
    rw [List.length_append, hol, hc2, hzs, ← Nat.add_mul]
    exact Nat.mul_le_mul_right _ (by omega)

/-- append in place: a slice of known capacity that has the room. -/
theorem op_appendIn {x y : Operand} {t u E : TypeId} {i : TypeInfo} {z : Value} {d : TypeDesc} {sz p g off len cap m : Nat} {cs ds : List AV} {yv : AV} (ho : o.op = .call { callee := .builtin .append, args := #[x, y], argTypes := #[t, u] })
    (hd : d = .string ∨ ∃ E', d = .slice E') (ht : P.underlying t = some (.slice E)) (hu : P.underlying u = some d) (hi : P.info? E = some i) (hsz : i.size = sz)
    (hx : opO e x = some (.arrC p g sz off len cap)) (hσ : σ[p]? = some (.arr sz g cs)) (hsz0 : sz ≠ 0) (hc0 : 0 < cap) (hy : opO e y = some yv) (hsrc : SrcN P σ yv sz m m ds) (hds : ds.length = m * sz) (h1 : ones ds = true) (hroom : len + m ≤ cap) (hfit : (off + (len + m)) * sz ≤ cs.length) :
    AOp P σ e o (.arrC p g sz off (len + m) cap) (σ.set p (.arr sz g (cs.take (off * sz + len * sz) ++ ds ++ cs.drop (off * sz + len * sz + ds.length)))) := by
  intro s a hs gd hv K Q hk _
  subst hs
  subst hsz
  have hplt : p < s.σ.length := (List.getElem?_eq_some_iff.1 hσ).1
  have hxv := (opO_eq hx ▸ hv x (by simp [ho, Op.operands, Call.operands])).inv_arrC hσ
  have hyv := opO_eq hy ▸ hv y (by simp [ho, Op.operands, Call.operands])
  obtain ⟨_, hA, hlc, hft⟩ := hxv
  have hlive : s.live p := by
    unfold CS.live; rw [hσ]
    show (s.μ p).tot ≠ 0
    have : 0 < (off + cap) * i.size := Nat.mul_pos (by omega) (Nat.pos_of_ne_zero hsz0)
    omega
  obtain ⟨_, vs, T, hb, ht0, h7, h8, hpv⟩ := gd.rep hσ hlive
  obtain ⟨ws, hp, hl, hf⟩ := hsrc s _ rfl gd hyv
  have hwl : ws.length = ds.length := hp.1
  have hfl : off * i.size + len * i.size + m * i.size ≤ cs.length := by rw [Nat.add_assoc, ← Nat.add_mul, ← Nat.add_mul]; exact hfit
  have hrun := run_append_room' (ty := o.type) (b := (s.μ p).b) (off := (s.μ p).base + off * i.size) (sLen := len) (sCap := cap) (x := a.eval y) (news := ws) (cur := vs) (T := T) hd ht hu hi hl hf hroom hb (by omega) (one_of_pw hp h1)
  rw [show (s.μ p).base + off * i.size + len * i.size = (s.μ p).base + (off * i.size + len * i.size) by omega] at hrun
  have hsp := splice_list (vs := vs) (news := ws) (base := (s.μ p).base) (i := off * i.size + len * i.size) (L := cs.length) (by omega) (by omega)
  have hps := hpv.splice hp (off * i.size + len * i.size)
  have hcl : (cs.take (off * i.size + len * i.size) ++ ds ++ cs.drop (off * i.size + len * i.size + ds.length)).length = cs.length := by
    simp only [List.length_append, List.length_take, List.length_drop]; omega
  obtain ⟨s', e1, e2, g', x', hμ, hok⟩ := gd.setObj hσ hlive (o' := .arr i.size g (cs.take (off * i.size + len * i.size) ++ ds ++ cs.drop (off * i.size + len * i.size + ds.length))) (.arr _ _ _ _ _ (Nat.le_refl _) fun _ => hcl.symm) rfl
    (vs := vs.take ((s.μ p).base + (off * i.size + len * i.size)) ++ ws ++ vs.drop ((s.μ p).base + (off * i.size + len * i.size) + ws.length)) ⟨ht0, by simp only [List.length_append, List.length_take, List.length_drop]; omega, by rw [hcl]; exact h8, by rw [hcl, hsp]; exact hps⟩
  refine wp_value (w' := s'.w) (cv := .slice (some ⟨(s.μ p).b, (s.μ p).base + off * i.size, none⟩) (len + m) cap) ?_ (hk _ _ s' ⟨rfl, e1⟩ g' x' ?_)
  · rw [e2]
    simp only [execOp, ho, resolve, invoke, builtin, Sem.run_bind, Sem.run_pure, Result.andThen_ok, List.map_toArray, List.map_cons, List.map_nil, hA]
    rw [hrun]; rfl
  · refine .arrC _ _ _ _ _ _ _ rfl (.mk (cs := cs.take (off * i.size + len * i.size) ++ ds ++ cs.drop (off * i.size + len * i.size + ds.length)) (by rw [e1]; simp [hplt]) ⟨rfl, by rw [hμ], hroom, by rw [hμ]; exact hft⟩)
/-- clear: nothing is known of what is there. -/
theorem op_clearA {x : Operand} {t E : TypeId} {z : Value} {sz p g off len : Nat} {cs : List AV} {c : Array TypeId} (ho : o.op = .call { callee := .builtin .clear, args := #[x], argTypes := c }) (hc : c[0]? = some t) (ht : P.underlying t = some (.slice E)) (hz : ∀ w, (zeroValue E).run P w = Result.ok z w) (hzs : z.cells.size = sz) (hz1 : ∀ v ∈ z.cells.toList, v.oneCell' = true)
    (hx : opO e x = some (.arr p g sz off len)) (hσ : σ[p]? = some (.arr sz g cs)) (hlen : 0 < len) (hsz0 : sz ≠ 0) (hfit : (off + len) * sz ≤ cs.length) :
    AOp P σ e o (.tup []) (σ.set p (.arr sz g (cs.take (off * sz) ++ List.replicate (len * sz) .any ++ cs.drop (off * sz + len * sz)))) := by
  intro s a hs gd hv K Q hk _
  subst hs
  have hxv := (opO_eq hx ▸ hv x (by simp [ho, Op.operands, Call.operands])).inv_arr hσ
  obtain ⟨_, ⟨A, hA, h0⟩ | ⟨cap, hA, hlc, hft⟩⟩ := hxv
  · omega
  · have hlive : s.live p := by
      unfold CS.live; rw [hσ]
      show (s.μ p).tot ≠ 0
      have : 0 < (off + cap) * sz := Nat.mul_pos (by omega) (Nat.pos_of_ne_zero hsz0)
      omega
    obtain ⟨_, vs, T, hb, ht0, h7, h8, hpv⟩ := gd.rep hσ hlive
    have hfl : off * sz + len * sz ≤ cs.length := by rw [← Nat.add_mul]; exact hfit
    have hwl : (Builtin.zeroCells z.cells len).toList.length = len * sz := by rw [Array.length_toList, size_zeroCells, hzs]
    have hw1 : ∀ v ∈ (Builtin.zeroCells z.cells len).toList, v.oneCell' = true := by
      intro v hv
      simp only [Builtin.zeroCells, Array.toList_map, List.mem_map, Array.toList_range, List.mem_range] at hv
      obtain ⟨j, hj, rfl⟩ := hv
      have hj2 : j % z.cells.size < z.cells.size := Nat.mod_lt _ (by rw [hzs]; omega)
      rw [getElem!_pos z.cells (j % z.cells.size) hj2]
      exact hz1 _ (by simp)
    generalize hws : (Builtin.zeroCells z.cells len).toList = ws at hwl hw1
    obtain ⟨q, rfl⟩ : ∃ q, len = q + 1 := ⟨len - 1, by omega⟩
    have hst := run_storeCells_at P (s.μ p).b ((s.μ p).base + off * sz) T ws 0 vs.toArray s.w hb (by simp; omega) hw1
    simp only [Nat.add_zero] at hst
    have hrun : (Builtin.clear_ c o.type #[.slice (some ⟨(s.μ p).b, (s.μ p).base + off * sz, none⟩) (q + 1) cap]).run P s.w = .ok (.tuple #[]) (s.w.setRow (s.μ p).b (vs.take ((s.μ p).base + off * sz) ++ ws ++ vs.drop ((s.μ p).base + off * sz + ws.length)).toArray) := by
      simp [Builtin.clear_, hc, run_underlying ht, hz, hws, hst]
    have hsp := splice_list (vs := vs) (news := ws) (base := (s.μ p).base) (i := off * sz) (L := cs.length) (by omega) (by omega)
    have hps := hpv.splice (PW.anysN (s := s) hwl) (off * sz)
    rw [List.length_replicate] at hps
    have hcl : (cs.take (off * sz) ++ List.replicate ((q + 1) * sz) AV.any ++ cs.drop (off * sz + (q + 1) * sz)).length = cs.length := by
      simp only [List.length_append, List.length_take, List.length_drop, List.length_replicate]; omega
    obtain ⟨s', e1, e2, g', x', hμ, hok⟩ := gd.setObj hσ hlive (o' := .arr sz g (cs.take (off * sz) ++ List.replicate ((q + 1) * sz) AV.any ++ cs.drop (off * sz + (q + 1) * sz))) (.arr _ _ _ _ _ (Nat.le_refl _) fun _ => hcl.symm) rfl
      (vs := vs.take ((s.μ p).base + off * sz) ++ ws ++ vs.drop ((s.μ p).base + off * sz + ws.length)) ⟨ht0, by simp only [List.length_append, List.length_take, List.length_drop]; omega, by rw [hcl]; exact h8, by rw [hcl, hsp]; exact hps⟩
    refine wp_value (w' := s'.w) (cv := .tuple #[]) ?_ (hk _ _ s' ⟨rfl, e1⟩ g' x' (V.tup (s := s') [] [] rfl (fun i c v h _ => by simp at h)))
    rw [e2]
    simp only [execOp, ho, resolve, invoke, builtin, Sem.run_bind, Sem.run_pure, Result.andThen_ok, List.map_toArray, List.map_cons, List.map_nil, hA]
    rw [hrun]; rfl
end Lg
namespace Lg
open Go Go.RowKit
variable [GLay]
variable {P : Program} {N : Nat} {e : Env} {σ l : List AO} {Q : QA} {o : Oper} {p : Nat} {x y z : AO} {f : FuncId} {args : List AV} {v : AV}
section
variable {T K E : TypeId} {a b c : Operand} {m : List (Int × AV)} {k : Int} {zv : Value}
end
end Lg
namespace Lg
open Go Go.RowKit
variable [GLay]
section
variable {P : Program} {σ : List AO} {e : Env} {o : Oper}
end
end Lg
namespace Lg
open Go Go.RowKit
theorem run_overlaps_half {P : Program} (w : World) (tS tR e : TypeId) (ht : P.underlying tS = some (.slice e)) (size : Nat) (hz : ∀ w, (Go.sizeOf e).run P w = .ok size w)
    (a b : Addr) (la ca lb cb : Nat) (hne : a.block ≠ b.block) (xa xb : Array Value) (tA tB : TypeId) (fr : Nat × Nat)
    (hsa : w.heap[a.block]? = some (.cells xa tA fr)) (hka : xa.size ≠ 0) (hsb : w.heap[b.block]? = some (.cells xb tB (0, 0))) :
    (Extern.SlicesOverlaps.overlaps #[tS, tS] #[tR] #[.slice (some a) la ca, .slice (some b) lb cb]).run P w = .ok (.bool false) w := by
  have hnb : (a.block != b.block) = true := by simpa using hne
  have hnb' : (a.block == b.block) = false := by simpa using hne
  have sa : w.shape? a.block = some (tA, xa.size) := by unfold World.shape?; rw [hsa]
  have sb : w.shape? b.block = some (tB, xb.size) := by unfold World.shape?; rw [hsb]
  have fb : ∀ off sp, w.frozen? ⟨b.block, off, sp⟩ = false := fun off sp => by unfold World.frozen?; rw [hsb]; simp
  have fb' : w.frozen? b = false := fb b.off b.spot
  obtain ⟨ka, hka'⟩ : ∃ k, xa.size = k + 1 := ⟨xa.size - 1, by omega⟩
  change Sem.run P (α := Value) (do
    let some t := (#[tS, tS] : Array TypeId)[0]? | stuck "slices.overlaps: no parameter types"
    let .slice elem ← underlying t | stuck "slices.overlaps: slice type expected"
    let size ← sizeOf elem
    match (some a : Option Addr), (some b : Option Addr) with
    | some a, some b =>
      if la = 0 ∨ lb = 0 ∨ size = 0 then pure (Value.bool false)
      else if a.block != b.block && (← frozen a) && (← frozen b) then unsupported .addressObserved
      else do
        if a.block != b.block then do
          noView a; noView b
          if ← mayBeOne a b then return Value.bool ((← choose (.extern "sameAddr.stringBytes" 2)) == 1)
        pure (Value.bool (a.block == b.block && a.off < b.off + lb * size && b.off < a.off + la * size))
    | _, _ => pure (Value.bool false)) w = _
  by_cases h0 : la = 0 ∨ lb = 0 ∨ size = 0
  · simp [run_underlying ht, hz, h0]
  · rw [hka'] at sa
    by_cases hfa : w.frozen? a = true
    · simp [run_underlying ht, hz, h0, hnb, hnb', frozen, noView, viewAt, mayBeOne, stringish, shape, Sem.run, sa, sb, fb, fb', hfa]
    · simp [run_underlying ht, hz, h0, hnb, hnb', frozen, noView, viewAt, mayBeOne, stringish, shape, Sem.run, sa, sb, fb, fb', hfa]
variable [GLay]
theorem op_overlapsS {P : Program} {σ : List AO} {e : Env} {o : Oper} {f : FuncId} {fn : Func} {x y : Operand} {at_ : Array TypeId} {tS tR E : TypeId} {fl : Bool} {sz p g off len cap : Nat} {r : List AV} {rs : List (List AV)} {cs : List AV} (ho : o.op = .call { callee := .value (.func f), args := #[x, y], argTypes := at_ })
    (hf : P.funcs[f]? = some fn) (hname : (fn.name == "runtime.NumGoroutine") = false) (hb : fn.body.isNone = true) (hnx : Extern.findNext fn = none) (hex : Extern.find fn = some (Extern.SlicesOverlaps.overlaps #[tS, tS] #[tR]))
    (hu : P.underlying tS = some (.slice E)) (hsz : ∀ w, (Go.sizeOf E).run P w = Result.ok sz w) (hx : opO e x = some (.sl fl sz (r :: rs))) (hy : opO e y = some (.arrC p g sz off len cap)) (hp : σ[p]? = some (.arr sz g cs))
    (hsz0 : sz ≠ 0) (hcap : cap ≠ 0) : AOp P σ e o (.bool false) σ :=
  .of_run fun s a hs gd hv => by
    subst hs
    have hxv := (opO_eq hx ▸ hv x (by simp [ho, Op.operands, Call.operands])).inv_sl
    have hyv := (opO_eq hy ▸ hv y (by simp [ho, Op.operands, Call.operands])).inv_arrC hp
    rcases hxv with ⟨ad, hA, hnil⟩ | ⟨b, offx, capx, vs, hA, hok, hel, hcell, hpw, hcapx, _⟩
    · cases hnil
    · obtain ⟨_, hB, hlen, hfit2⟩ := hyv
      have hposp : (s.μ p).tot ≠ 0 := by
        have : 0 < (off + cap) * sz := Nat.mul_pos (by omega) (by omega)
        omega
      have hlp : s.live p := by unfold CS.live; rw [hp]; exact hposp
      obtain ⟨hnok, vp, Tp, bp, rp⟩ := gd.rep hp hlp
      have hokb : s.ok b := hok.resolve_left (by simp)
      have hne : b ≠ (s.μ p).b := fun h => hnok (h ▸ hokb)
      have hrl := hel r (List.mem_cons_self ..)
      have hvl : 0 < vs.length := by
        rw [hpw.1, List.flatten_cons, List.length_append]; omega
      obtain ⟨v0, hv0⟩ : ∃ v, vs[0]? = some v := ⟨_, List.getElem?_eq_getElem hvl⟩
      have hc0 := hcell 0 v0 hv0
      obtain ⟨xa, Ta, fr, hxa, hxs⟩ : ∃ xa Ta fr, s.w.heap[b]? = some (.cells xa Ta fr) ∧ xa.size ≠ 0 := by
        unfold World.cell? at hc0
        simp only at hc0
        split at hc0
        · rename_i xa Ta fr hh
          refine ⟨xa, Ta, fr, hh, fun h0 => ?_⟩
          split at hc0
          · cases hc0
          · rw [Array.getElem?_eq_none (by omega)] at hc0; cases hc0
        · cases hc0
      refine ⟨.bool false, ?_, .bool _⟩
      have hrun := run_overlaps_half (P := P) s.w tS tR E hu sz hsz ⟨b, offx, none⟩ ⟨(s.μ p).b, (s.μ p).base + off * sz, none⟩ (r :: rs).length capx len cap hne xa vp.toArray Ta Tp fr hxa hxs bp
      have hF : a.eval (.func f) = .func (.func f) #[] #[] := rfl
      simp only [execOp, ho, resolve, Sem.run_bind, Sem.run_pure, Result.andThen_ok, List.map_toArray, List.map_cons, List.map_nil, hA, hB, hF, Deferred.ofValue, invoke]
      simp only [Array.append_empty, Array.empty_append]
      rw [run_callFunc_extern hf hname hb hnx hex, hrun]; rfl
end Lg
set_option maxRecDepth 20000
set_option maxHeartbeats 4000000
namespace Lg
open Go Go.Proofs Go.RowKit
variable [GLay] 
theorem cloneV_c (f : Bool) (rows : List (List AV)) (σ : List AO) (hel : ∀ r ∈ rows, r.length = 8) (hone : ones rows.flatten = true) (hlt : ∀ n, AV.ltL n rows.flatten) (hn : rows.length ≤ 1000000) : ACalls Tryz.prog 39 [.sl f 8 rows] σ (fun o σ' => o = .ret (.arr σ.length 0 8 0 rows.length) ∧ σ' = σ ++ [.arr 8 0 rows.flatten]) := by
 refine ACalls_body Tryz.func39 rfl Tryz.ntmps39 (res1 Tryz.results39) (Nat.le_of_ble_eq_true rfl) (fun hcl hal => ?_)
 refine zw1 ?_
 refine AWp_seq ?_
 refine zu1 ?_
 refine ztR rfl (op_eqSlR rfl Tryz.underlying25 rfl) (fun v1_1 s1_1 hr => ?_) (fun v1_1 s1_1 hr => ?_)
 rotate_left
 ·exact hr.elim
 obtain ⟨hs, b, rfl, hb⟩ := hr
 rw [hs]
 refine zon ?_
 refine AWp_cond rfl (fun h1 => ?_) (fun h1 => ?_)
 ·(try rw [h1]); replace h1 := zcl h1
  refine zw1 ?_
  have hnil := hb h1
  subst hnil
  refine AWp_ghostT 2 8 rfl ?_ (by decide)
  refine zrt ?_
  refine ResQ_K (v := .arr σ.length 0 8 0 0) (σ.length + 1) (by omega) rfl (closed_own 1 hcl ?_) (by simp [AV.lt]) ⟨rfl, take_own 1⟩
  simp [ownLt, AO.cells, AV.ltL]
 ·(try rw [h1]); replace h1 := zcl h1
  refine AWp_skip ?_
  refine zsr ?_
  refine zt rfl (op_buildSlice0 (sz := 8) rfl Tryz.underlying25 Tryz.sizeOf28) ?_
  refine zg1 ?_
  refine zt rfl (op_appendNew (sz := 8) (m := rows.length) (cs := rows.flatten) rfl (.inr ⟨_, rfl⟩) Tryz.underlying25 Tryz.underlying25 Tryz.type28 rfl rfl rfl (by decide) (.inr rfl) (by rfl) rfl hone (by show rows.length * 112 ≤ _; omega) (by omega) (flatten_len hel)) ?_
  refine zv1 ?_
  refine zrt ?_
  refine ResQ_K (v := .arr σ.length 0 8 0 rows.length) (σ.length + 1) (by omega) rfl (closed_own 1 hcl ?_) (by simp [AV.lt]) ⟨rfl, take_own 1⟩
  simp [ownLt, AO.cells, AV.ltL]; exact hlt _

theorem cloneM_c (f : Bool) (rows : List (List AV)) (σ : List AO) (hel : ∀ r ∈ rows, r.length = 9) (hone : ones rows.flatten = true) (hlt : ∀ n, AV.ltL n rows.flatten) (hn : rows.length ≤ 1000000) : ACalls Tryz.prog 41 [.sl f 9 rows] σ (fun o σ' => o = .ret (.arr σ.length 0 9 0 rows.length) ∧ σ' = σ ++ [.arr 9 0 rows.flatten]) := by
 refine ACalls_body Tryz.func41 rfl Tryz.ntmps41 (res1 Tryz.results41) (Nat.le_of_ble_eq_true rfl) (fun hcl hal => ?_)
 refine zw1 ?_
 refine AWp_seq ?_
 refine zu1 ?_
 refine ztR rfl (op_eqSlR rfl Tryz.underlying26 rfl) (fun v1_1 s1_1 hr => ?_) (fun v1_1 s1_1 hr => ?_)
 rotate_left
 ·exact hr.elim
 obtain ⟨hs, b, rfl, hb⟩ := hr
 rw [hs]
 refine zon ?_
 refine AWp_cond rfl (fun h1 => ?_) (fun h1 => ?_)
 ·(try rw [h1]); replace h1 := zcl h1
  refine zw1 ?_
  have hnil := hb h1
  subst hnil
  refine AWp_ghostT 2 9 rfl ?_ (by decide)
  refine zrt ?_
  refine ResQ_K (v := .arr σ.length 0 9 0 0) (σ.length + 1) (by omega) rfl (closed_own 1 hcl ?_) (by simp [AV.lt]) ⟨rfl, take_own 1⟩
  simp [ownLt, AO.cells, AV.ltL]
 ·(try rw [h1]); replace h1 := zcl h1
  refine AWp_skip ?_
  refine zsr ?_
  refine zt rfl (op_buildSlice0 (sz := 9) rfl Tryz.underlying26 Tryz.sizeOf64) ?_
  refine zg1 ?_
  refine zt rfl (op_appendNew (sz := 9) (m := rows.length) (cs := rows.flatten) rfl (.inr ⟨_, rfl⟩) Tryz.underlying26 Tryz.underlying26 Tryz.type64 rfl rfl rfl (by decide) (.inr rfl) (by rfl) rfl hone (by show rows.length * 128 ≤ _; omega) (by omega) (flatten_len hel)) ?_
  refine zv1 ?_
  refine zrt ?_
  refine ResQ_K (v := .arr σ.length 0 9 0 rows.length) (σ.length + 1) (by omega) rfl (closed_own 1 hcl ?_) (by simp [AV.lt]) ⟨rfl, take_own 1⟩
  simp [ownLt, AO.cells, AV.ltL]; exact hlt _
end Lg
namespace Lg
open Go
/-! ### A row more in a list of rows, cell by cell -/
variable {sz : Nat} {rows : List (List AV)} {row : List AV} {i : Nat}
theorem rows_split (i : Nat) : rows.flatten = (rows.take i).flatten ++ (rows.drop i).flatten := by
  rw [← List.flatten_append, List.take_append_drop]
theorem tk_len [GLay] (hel : ∀ r ∈ rows, r.length = sz) (hi : i ≤ rows.length) : (rows.take i).flatten.length = i * sz := by
  rw [flatten_len (fun r hr => hel r (List.mem_of_mem_take hr)), List.length_take, Nat.min_eq_left hi]
theorem dr_len [GLay] (hel : ∀ r ∈ rows, r.length = sz) : (rows.drop i).flatten.length = (rows.length - i) * sz := by
  rw [flatten_len (fun r hr => hel r (List.mem_of_mem_drop hr)), List.length_drop]
theorem ins_flat (i : Nat) : (rows.take i ++ row :: rows.drop i).flatten = (rows.take i).flatten ++ (row ++ (rows.drop i).flatten) := by simp
theorem ins_len (hi : i ≤ rows.length) : (rows.take i ++ row :: rows.drop i).length = rows.length + 1 := by simp; omega
theorem ins_el (hel : ∀ r ∈ rows, r.length = sz) (hr : row.length = sz) : ∀ r ∈ rows.take i ++ row :: rows.drop i, r.length = sz := by
  intro r h
  simp only [List.mem_append, List.mem_cons] at h
  rcases h with h | rfl | h
  · exact hel r (List.mem_of_mem_take h)
  · exact hr
  · exact hel r (List.mem_of_mem_drop h)
/-- What a copy writes. -/
theorem cpy {α : Type} {A B C ds : List α} {a : Nat} (h : A.length = a) (hd : ds.length = B.length) : (A ++ (B ++ C)).take a ++ ds ++ (A ++ (B ++ C)).drop (a + ds.length) = A ++ (ds ++ C) := by
  subst h
  rw [List.take_left, List.append_assoc, ← List.drop_drop, List.drop_left, hd, List.drop_left]
theorem cut_mid {α : Type} {A B C : List α} {a b : Nat} (h : A.length = a) (hb : B.length = b) : ((A ++ (B ++ C)).drop a).take b = B := by
  subst h; subst hb
  rw [List.drop_left, List.take_left]
end Lg
namespace Lg
open Go
section
variable [GLay] {σ : List AO} {p : Nat} {X y z : AO}
theorem get_set1 : (σ.set p X ++ [y])[σ.length]? = some y := by
  simp
theorem set_set1 : (σ.set p X ++ [y]).set σ.length z = σ.set p X ++ [z] := by
  simp
theorem get_setB (h : p < σ.length) : (σ.set p X ++ [y])[p]? = some X := get_setA h
theorem set_setB (h : p < σ.length) : (σ.set p X ++ [y]).set p z = σ.set p z ++ [y] := by
  rw [List.set_append_left _ _ (by simpa using h), List.set_set]
end
variable {sz : Nat} {rows : List (List AV)} {row : List AV} {i : Nat}
/-- The cells of a new array, as append leaves them: what stood ahead, then room. -/
theorem grow_cells [GLay] {cap : Nat} (hel : ∀ r ∈ rows, r.length = sz) (hi : i < rows.length) :
    ((rows.flatten ++ List.replicate ((cap - rows.length) * sz) AV.any).drop (0 * sz)).take (i * sz) ++ List.replicate ((rows.length + 1 - i) * sz) .any = (rows.take i).flatten ++ (List.replicate sz .any ++ List.replicate ((rows.length - i) * sz) .any) := by
  rw [Nat.zero_mul, List.drop_zero, rows_split i, List.append_assoc, List.take_left' (tk_len hel (by omega)), List.replicate_append_replicate]
  congr 2
  rw [show rows.length + 1 - i = (rows.length - i) + 1 by omega, Nat.add_mul]; omega
/-- The cells of an array with room, cut where a row comes in. -/
theorem room_cells [GLay] {cap : Nat} (hel : ∀ r ∈ rows, r.length = sz) (hi : i < rows.length) (hc : rows.length + 1 ≤ cap) :
    rows.flatten ++ List.replicate ((cap - rows.length) * sz) AV.any = (rows.take i).flatten ++ ((rows.drop i).flatten ++ (List.replicate sz .any ++ List.replicate ((cap - rows.length - 1) * sz) .any)) := by
  obtain ⟨k, rfl⟩ : ∃ k, cap = rows.length + 1 + k := ⟨cap - (rows.length + 1), by omega⟩
  rw [rows_split i, List.append_assoc, List.replicate_append_replicate]
  congr 3
  rw [show rows.length + 1 + k - rows.length = k + 1 by omega, show k + 1 - 1 = k by omega, Nat.add_mul, Nat.one_mul, Nat.add_comm]
end Lg
namespace Lg
open Go
theorem ins_lt [GLay] {rows : List (List AV)} {row : List AV} {i : Nat} (h : ∀ n, AV.ltLL n rows) (h2 : ∀ n, AV.ltL n row) (n : Nat) : AV.ltLL n (rows.take i ++ row :: rows.drop i) := by
  rw [AV.ltLL_iff]
  intro e he
  simp only [List.mem_append, List.mem_cons] at he
  have hh := (AV.ltLL_iff n rows).1 (h n)
  rcases he with he | rfl | he
  · exact hh e (List.mem_of_mem_take he)
  · exact h2 n
  · exact hh e (List.mem_of_mem_drop he)
theorem ones_drop [GLay] {rows : List (List AV)} (i : Nat) (h : ones rows.flatten = true) : ones (rows.drop i).flatten = true := by
  rw [ones_iff] at h ⊢
  intro a ha
  exact h a (by rw [rows_split i]; exact List.mem_append_right _ ha)
theorem ins_end {rows : List (List AV)} {row : List AV} : rows.take rows.length ++ row :: rows.drop rows.length = rows ++ [row] := by simp
/-- An own array of the caller's becomes a list that is never written again. -/
theorem AWp_freezeC [GLay] {P : Program} {N : Nat} {σ : List AO} {e : Env} {c : Code} {Q : QA} (t p gg sz n : Nat) (es : List (List AV)) {cs : List AV} (hl : lookO e.l t = some (.arr p gg sz 0 n)) (hp : σ[p]? = some (.arr sz gg cs)) (hes : es.flatten = cs.take (n * sz)) (hel : ∀ r ∈ es, r.length = sz) (hn : es.length = n) (hsz : sz ≠ 0) (hfit : n * sz ≤ cs.length)
    (h : AWp P N c (e.put (some t) (.sl false sz es)) (σ.set p .dead) Q) (ht : t < N) : AWp P N c e σ Q :=
  AWp_freezeArr t p gg sz 0 n hl hp es (by rw [Nat.zero_mul, List.drop_zero]; exact hes) hel hn hsz (by rw [Nat.zero_add]; exact hfit) h ht
end Lg
namespace Lg
open Go
theorem cpy2 {α : Type} {A r B ds : List α} {a : Nat} (h : A.length + r.length = a) (hd : ds.length = B.length) : (A ++ (r ++ B)).take a ++ ds ++ (A ++ (r ++ B)).drop (a + ds.length) = A ++ (r ++ ds) := by
  subst h
  rw [← List.append_assoc A r B, ← List.length_append, List.take_left, ← List.drop_drop, List.drop_left, hd, List.drop_length, List.append_nil, List.append_assoc]
theorem shiftc {α : Type} {A D R E : List α} {a : Nat} (h : A.length = a) : (A ++ (D ++ (R ++ E))).take (a + R.length) ++ D ++ (A ++ (D ++ (R ++ E))).drop (a + R.length + D.length) = A ++ ((D ++ (R ++ E)).take R.length ++ (D ++ E)) := by
  subst h
  rw [List.take_append, List.take_of_length_le (Nat.le_add_right _ _), Nat.add_sub_cancel_left, show A.length + R.length + D.length = A.length + (D.length + R.length) by omega, ← List.drop_drop, List.drop_left, ← List.drop_drop, List.drop_left, List.drop_left]
  simp [List.append_assoc]
theorem src_rows [GLay] {P : Program} {σ : List AO} {p g sz off len i : Nat} {rows : List (List AV)} {X : List AV} (hσ : σ[p]? = some (.arr sz g (rows.flatten ++ X))) (hel : ∀ r ∈ rows, r.length = sz) (hoff : off = i) (hi : i ≤ rows.length) (hlen : rows.length - i ≤ len) (hfit : (off + len) * sz ≤ (rows.flatten ++ X).length) :
    SrcN P σ (.arr p g sz off len) sz len (rows.length - i) (rows.drop i).flatten := by
  subst hoff
  have h := src_arr (P := P) hσ hlen hfit
  rwa [rows_split off, List.append_assoc, cut_mid (tk_len hel hi) (dr_len hel)] at h
end Lg
namespace Lg
theorem shiftc2 {A D E : List AV} {i z : Nat} (h : A.length = i * z) : (A ++ (D ++ (List.replicate z AV.any ++ E))).take ((i + 1) * z) ++ D ++ (A ++ (D ++ (List.replicate z AV.any ++ E))).drop ((i + 1) * z + D.length) = A ++ ((D ++ (List.replicate z AV.any ++ E)).take z ++ (D ++ E)) := by
  have := shiftc (D := D) (R := List.replicate z AV.any) (E := E) h
  rw [List.length_replicate] at this
  rw [Nat.add_mul, Nat.one_mul]; exact this
end Lg
namespace Lg
open Go
theorem src_rows2 [GLay] {P : Program} {σ : List AO} {p g sz off len i : Nat} {rows : List (List AV)} {X : List AV} (hσ : σ[p]? = some (.arr sz g (rows.flatten ++ X))) (hel : ∀ r ∈ rows, r.length = sz) (hoff : off = i) (hi : i ≤ rows.length) (hlen : len = rows.length - i) :
    SrcN P σ (.arr p g sz off len) sz len len (rows.drop i).flatten := by
  have hfl : rows.flatten.length = rows.length * sz := flatten_len hel
  subst hoff; subst hlen
  exact src_rows hσ hel rfl hi (Nat.le_refl _) (by
    rw [List.length_append, hfl, show off + (rows.length - off) = rows.length by omega]; omega)
theorem del_el {sz i : Nat} {rows : List (List AV)} (hel : ∀ r ∈ rows, r.length = sz) : ∀ r ∈ rows.take i ++ rows.drop (i + 1), r.length = sz := by
  intro r h
  rcases List.mem_append.1 h with h | h
  · exact hel r (List.mem_of_mem_take h)
  · exact hel r (List.mem_of_mem_drop h)
theorem del_len {i : Nat} {rows : List (List AV)} (hi : i < rows.length) : (rows.take i ++ rows.drop (i + 1)).length = rows.length - 1 := by simp; omega
theorem del_lt [GLay] {rows : List (List AV)} {i : Nat} (h : ∀ n, AV.ltLL n rows) (n : Nat) : AV.ltLL n (rows.take i ++ rows.drop (i + 1)) := by
  rw [AV.ltLL_iff]
  intro e he
  have hh := (AV.ltLL_iff n rows).1 (h n)
  rcases List.mem_append.1 he with he | he
  · exact hh e (List.mem_of_mem_take he)
  · exact hh e (List.mem_of_mem_drop he)
theorem del_cells [GLay] {sz i : Nat} {rows : List (List AV)} {R ds : List AV} (hel : ∀ r ∈ rows, r.length = sz) (hi : i ≤ rows.length) : (rows.flatten ++ R).take (i * sz) ++ ds ++ (rows.flatten ++ R).drop (i * sz + ds.length) = (rows.take i).flatten ++ (ds ++ (rows.flatten ++ R).drop (i * sz + ds.length)) := by
  conv => lhs; arg 1; arg 1; rw [rows_split i, List.append_assoc, List.take_left' (tk_len hel hi)]
  rw [List.append_assoc]
theorem del_fin {A D E X Y : List AV} {k : Nat} (h : (A ++ D).length = k) : ((A ++ (D ++ E)).take k ++ X ++ Y).take k = A ++ D := by
  rw [List.append_assoc, List.take_left' (by rw [List.length_take, ← List.append_assoc, List.length_append, h]; omega), ← List.append_assoc, List.take_left' h]
end Lg
namespace Lg
open Go
theorem del_fin2 {A D E X Y : List AV} {k k1 k2 : Nat} (h : (A ++ D).length = k) (h1 : k1 = k) (h2 : k2 = k) : ((A ++ (D ++ E)).take k1 ++ X ++ Y).take k2 = A ++ D := by
  subst h1; subst h2; exact del_fin h
theorem fit_of_take {cs : List AV} {k : Nat} (h : (cs.take k).length = k) : k ≤ cs.length := by rw [List.length_take] at h; omega
end Lg
set_option maxRecDepth 20000
set_option maxHeartbeats 4000000
namespace Lg
open Go Go.Proofs Go.RowKit
variable [GLay] 
theorem insV_c (rows : List (List AV)) (row : List AV) (i p g : Nat) (σ : List AO) (hp : σ[p]? = some (.arr 8 g rows.flatten)) (hel : ∀ r ∈ rows, r.length = 8) (hrl : row.length = 8) (hone : ones rows.flatten = true) (hone2 : ones row = true) (hlt : ∀ n, AV.ltLL n rows) (hlt2 : ∀ n, AV.ltL n row) (hi : i ≤ rows.length) (hn : rows.length ≤ 1000000) : ACalls Tryz.prog 38 [.arr p g 8 0 rows.length, .int .i64 (i : Int), .sl true 8 [row]] σ (Ret (.sl false 8 (rows.take i ++ row :: rows.drop i)) (σ.set p .dead)) := by
 refine ACalls_body Tryz.func38 rfl Tryz.ntmps38 (res1 Tryz.results38) (Nat.le_of_ble_eq_true rfl) (fun hcl hal => ?_)
 have hpl := (List.getElem?_eq_some_iff.1 hp).1
 have h0i : 0 + ((i : Int)).toNat = i := by omega
 have h1i : 0 + ((i : Int) + 1).toNat = i + 1 := by omega
 have h2i : 0 + Int.toNat 0 + ((i : Int) + 1).toNat = i + 1 := by omega
 have h3i : 0 + Int.toNat 0 + ((i : Int)).toNat = i := by omega
 have hAl : (rows.take i).flatten.length = i * 8 := tk_len hel hi
 have hR1 : (row ++ []).length = (List.replicate 8 AV.any).length := by rw [List.append_nil, hrl, List.length_replicate]
 have hfl : rows.flatten.length = rows.length * 8 := flatten_len hel
 refine zw1 ?_
 refine zu2 ?_
 refine zt rfl (op_sliceArr _ _ rfl Tryz.underlying25 Tryz.sizeOf28 rfl hp (by first | exact ⟨_, rfl⟩ | rfl) (by first | exact ⟨_, rfl⟩ | rfl) (by omega) (by omega) (by omega)) ?_
 refine zon ?_
 refine zu1 ?_
 refine zt rfl (op_lenS rfl rfl Tryz.underlying25 rfl rfl trivial) ?_
 rw [show (([row].length : Nat) : Int) = 1 from rfl]
 refine zv1 ?_
 refine AWp_seq ?_
 refine zw2 ?_
 refine AWp_condF rfl ?_
 refine AWp_skip ?_
 refine zu1 ?_
 refine zt rfl (op_lenS rfl rfl Tryz.underlying25 rfl rfl ⟨_, _, hp⟩) ?_
 refine zv1 ?_
 refine AWp_seq ?_
 refine zw3 ?_
 refine AWp_cond rfl (fun h1 => ?_) (fun h1 => ?_)
 ·(try rw [h1]); replace h1 := zcl h1
  refine zu2 ?_
  refine zt rfl (op_appendArr (p := p) (gg := g) (off := 0) (len := rows.length) (sz := 8) (m := 1) (cs := row ++ []) rfl (.inr ⟨_, rfl⟩) Tryz.underlying25 Tryz.underlying25 Tryz.type28 rfl rfl rfl (by decide) rfl hp (by rw [Nat.zero_add, hfl]) rfl rfl (by rw [List.append_nil]; exact hone2) (by show (rows.length + 1) * 112 ≤ _; omega) (by omega) (by rw [List.append_nil, hrl])) ?_
  refine zv1 ?_
  refine AWp_heap (σ' := σ.set p (.arr 8 (g + 1) (rows ++ [row]).flatten)) (by rw [Nat.zero_mul, List.drop_zero, List.append_nil, List.flatten_append]; simp) ?_
  refine AWp_freezeC 6 p (g + 1) 8 (rows.length + 1) (rows ++ [row]) rfl (get_set hpl) (by rw [List.take_of_length_le (by rw [List.flatten_append, List.length_append, hfl]; simp [hrl]; omega)]) (by have := ins_el (i := rows.length) hel hrl; rwa [ins_end] at this) (by simp) (by decide) (by rw [List.flatten_append, List.length_append, hfl]; simp [hrl]; omega) ?_ (by decide)
  have hie : i = rows.length := by omega
  subst hie
  rw [List.set_set, ins_end]
  refine zrt ?_
  exact ResQ_S0 (x := .dead) rfl hcl trivial (by have := ins_lt (i := rows.length) hlt hlt2 σ.length; rw [ins_end] at this; exact this) (Ret_of rfl)
 ·(try rw [h1]); replace h1 := zcl h1
  refine AWp_skip ?_
  refine AWp_seq ?_
  refine AWp_seq ?_
  refine AWp_reveal 0 p g 8 rows.length rfl hp hfl (by omega) (by decide) (by decide) (fun cap hcap => ?_)
  refine AWp_regL ?_
  refine zg4 ?_
  refine zt rfl (op_capC rfl rfl Tryz.underlying25 rfl (get_set hpl)) ?_
  refine zv1 ?_
  refine AWp_cond rfl (fun h2 => ?_) (fun h2 => ?_)
  ·(try rw [h2]); replace h2 := zcl h2
   refine zu2 ?_
   refine zt rfl (op_sliceC _ _ rfl Tryz.underlying25 Tryz.sizeOf28 rfl (get_set hpl) (by first | exact ⟨_, rfl⟩ | rfl) (by first | exact ⟨_, rfl⟩ | rfl) (by omega) (by omega) (by omega) (by omega)) ?_
   refine zg5 ?_
   rw [show ((rows.length : Int) + 1 - (i : Int)) = ((rows.length + 1 - i : Nat) : Int) by omega]
   refine zt rfl (op_appendZ (sz := 8) (p := p) (g := g + 1) (off := 0) (len := i) (cap := cap) (k := rows.length + 1 - i) rfl Tryz.underlying25 Tryz.underlying3 Tryz.type28 rfl rfl rfl rfl (get_set hpl) (by decide) (by omega) (by rw [List.length_append, hfl]; omega) rfl (by omega) (by show (i + (rows.length + 1 - i)) * 112 ≤ _; omega) (by omega)) ?_
   rw [List.length_set]
   refine zv1 ?_
   refine AWp_seq ?_
   refine AWp_heap (σ' := σ.set p (.arr 8 (g + 1) (rows.flatten ++ List.replicate ((cap - rows.length) * 8) .any)) ++ [.arr 8 0 ((rows.take i).flatten ++ (List.replicate 8 AV.any ++ List.replicate ((rows.length - i) * 8) AV.any))]) (by rw [grow_cells hel (by omega)]) ?_
   refine AWp_slotLe 0 rfl (AVle.capA _ _ _ _ _ _) ?_ (by decide)
   have hcl1 : ((rows.take i).flatten ++ (List.replicate 8 AV.any ++ List.replicate ((rows.length - i) * 8) AV.any)).length = i * 8 + (8 + (rows.length - i) * 8) := by rw [List.length_append, List.length_append, hAl, List.length_replicate, List.length_replicate]
   refine AWp_regL ?_
   refine zg2 ?_
   refine zt rfl (op_sliceArr _ _ rfl Tryz.underlying25 Tryz.sizeOf28 rfl get_set1 (by first | exact ⟨_, rfl⟩ | rfl) (by first | exact ⟨_, rfl⟩ | rfl) (by omega) (by omega) (by omega)) ?_
   refine zg1 ?_
   refine zt rfl (op_copyA (sz := 8) (m := 1) (n := 1) (ds := row ++ []) rfl Tryz.underlying25 Tryz.sizeOf28 rfl get_set1 (by omega) (by decide) (by rw [hcl1]; omega) rfl (src_all rfl rfl) (by omega) (by rw [List.append_nil, hrl]) (by rw [List.append_nil]; exact hone2)) ?_
   refine zon ?_
   refine AWp_seq ?_
   refine AWp_heap (σ' := σ.set p (.arr 8 (g + 1) (rows.flatten ++ List.replicate ((cap - rows.length) * 8) .any)) ++ [.arr 8 0 ((rows.take i).flatten ++ ((row ++ []) ++ List.replicate ((rows.length - i) * 8) AV.any))]) (by rw [set_set1, h0i, cpy hAl hR1]) ?_
   have hcl2 : ((rows.take i).flatten ++ ((row ++ []) ++ List.replicate ((rows.length - i) * 8) AV.any)).length = i * 8 + (8 + (rows.length - i) * 8) := by rw [List.length_append, List.length_append, hAl, List.length_replicate, List.append_nil, hrl]
   refine AWp_drawL #[0, 0, 0, 6, 15, 0, 0, 96, 255] Tryz.mixed (by decide +kernel) (by decide +kernel) ?_
   refine zd4 ?_
   refine yP rfl rfl (op_sliceArr _ _ rfl Tryz.underlying25 Tryz.sizeOf28 rfl get_set1 (by first | exact ⟨_, rfl⟩ | rfl) (by first | exact ⟨_, rfl⟩ | rfl) (by omega) (by omega) (by omega)) (trivial) ?_
   refine zd2 ?_
   refine yP rfl rfl (op_sliceArr _ _ rfl Tryz.underlying25 Tryz.sizeOf28 rfl (get_setB hpl) (by first | exact ⟨_, rfl⟩ | rfl) (by first | exact ⟨_, rfl⟩ | rfl) (by omega) (by omega) (by omega)) (trivial) ?_
   refine yE rfl rfl (op_copyA (sz := 8) (n := rows.length - i) (ds := (rows.drop i).flatten) rfl Tryz.underlying25 Tryz.sizeOf28 rfl get_set1 (by omega) (by decide) (by rw [hcl2]; omega) rfl (src_rows (get_setB hpl) hel (by omega) hi (by omega) (by rw [List.length_append, hfl]; omega)) (by omega) (dr_len hel) (ones_drop i hone)) (⟨.inl rfl, ⟨.inl rfl, trivial⟩⟩) (trivial) ?_
   refine RP.nil rfl ?_
   refine zw2 ?_
   have hfin : ((rows.take i).flatten ++ ((row ++ []) ++ (rows.drop i).flatten)) = (rows.take i ++ row :: rows.drop i).flatten := by rw [ins_flat, List.append_nil]
   have hfl2 : (rows.take i ++ row :: rows.drop i).flatten.length = (rows.length + 1) * 8 := by rw [flatten_len (ins_el hel hrl), ins_len hi]
   refine AWp_heap (σ' := σ.set p (.arr 8 (g + 1) (rows.flatten ++ List.replicate ((cap - rows.length) * 8) .any)) ++ [.arr 8 0 (rows.take i ++ row :: rows.drop i).flatten]) (by rw [set_set1, h1i, cpy2 (by rw [hAl, List.append_nil, hrl]; omega) (by rw [dr_len hel, List.length_replicate]), hfin]) ?_
   refine AWp_freezeC 6 σ.length 0 8 (i + (rows.length + 1 - i)) (rows.take i ++ row :: rows.drop i) rfl get_set1 (List.take_of_length_le (by rw [hfl2]; omega)).symm (ins_el hel hrl) (by rw [ins_len hi]; omega) (by decide) (by rw [hfl2]; omega) ?_ (by decide)
   rw [set_set1]
   refine AWp_freezeC 0 p (g + 1) 8 rows.length rows rfl (get_setB hpl) (by rw [← hfl, List.take_left]) hel rfl (by decide) (by rw [List.length_append, hfl]; omega) ?_ (by decide)
   rw [set_setB hpl]
   refine zrt ?_
   exact ResQ_S (x := .dead) rfl hcl trivial (ins_lt hlt hlt2 _) (Ret_of rfl)
  ·(try rw [h2]); replace h2 := zcl h2
   refine AWp_skip ?_
   refine zu4 ?_
   refine zt rfl (op_sliceC _ _ rfl Tryz.underlying25 Tryz.sizeOf28 rfl (get_set hpl) (by first | exact ⟨_, rfl⟩ | rfl) (by first | exact ⟨_, rfl⟩ | rfl) (by omega) (by omega) (by omega) (by omega)) ?_
   refine zv1 ?_
   refine AWp_seq ?_
   refine zu5 ?_
   refine zt rfl (op_sliceC _ _ rfl Tryz.underlying25 Tryz.sizeOf28 rfl (get_set hpl) (by first | exact ⟨_, rfl⟩ | rfl) (by first | exact ⟨_, rfl⟩ | rfl) (by omega) (by omega) (by omega) (by omega)) ?_
   refine zt rfl (op_overlapsS (tS := 25) (tR := 4) rfl Tryz.func68 (by kernel_rfl) (by kernel_rfl) (by kernel_rfl) (by kernel_rfl) Tryz.underlying25 Tryz.sizeOf28 rfl rfl (get_set hpl) (by decide) (by omega)) ?_
   refine zv1 ?_
   refine AWp_condT rfl ?_
   refine AWp_seq ?_
   refine AWp_slotLe 0 rfl (AVle.capA _ _ _ _ _ _) ?_ (by decide)
   have hroom := room_cells (cap := cap) hel (show i < rows.length by omega) (by omega)
   have hcl3 : (rows.flatten ++ List.replicate ((cap - rows.length) * 8) AV.any).length = rows.length * 8 + (cap - rows.length) * 8 := by rw [List.length_append, hfl, List.length_replicate]
   refine AWp_drawL #[0, 0, 0, 6, 15, 0, 0, 96, 255] Tryz.mixed (by decide +kernel) (by decide +kernel) ?_
   refine zd4 ?_
   refine yP rfl rfl (op_sliceArr _ _ rfl Tryz.underlying25 Tryz.sizeOf28 rfl (get_set hpl) (by first | exact ⟨_, rfl⟩ | rfl) (by first | exact ⟨_, rfl⟩ | rfl) (by omega) (by omega) (by omega)) (trivial) ?_
   refine zd2 ?_
   refine yP rfl rfl (op_sliceArr _ _ rfl Tryz.underlying25 Tryz.sizeOf28 rfl (get_set hpl) (by first | exact ⟨_, rfl⟩ | rfl) (by first | exact ⟨_, rfl⟩ | rfl) (by omega) (by omega) (by omega)) (trivial) ?_
   refine yE rfl rfl (op_copyA (sz := 8) (n := rows.length - i) (ds := (rows.drop i).flatten) rfl Tryz.underlying25 Tryz.sizeOf28 rfl (get_set hpl) (by omega) (by decide) (by rw [hcl3]; omega) rfl (src_rows (get_set hpl) hel (by omega) hi (by omega) (by rw [hcl3]; omega)) (by omega) (dr_len hel) (ones_drop i hone)) (⟨.inl rfl, ⟨.inl rfl, trivial⟩⟩) (trivial) ?_
   refine RP.nil rfl ?_
   refine AWp_seq ?_
   refine AWp_heap (σ' := σ.set p (.arr 8 (g + 1) ((rows.take i).flatten ++ (((rows.drop i).flatten ++ (List.replicate 8 AV.any ++ List.replicate ((cap - rows.length - 1) * 8) AV.any)).take 8 ++ ((rows.drop i).flatten ++ List.replicate ((cap - rows.length - 1) * 8) AV.any))))) (by rw [List.set_set, hroom, h2i, shiftc2 hAl]) ?_
   have hT : (row ++ []).length = (((rows.drop i).flatten ++ (List.replicate 8 AV.any ++ List.replicate ((cap - rows.length - 1) * 8) AV.any)).take 8).length := by rw [List.append_nil, hrl, List.length_take, List.length_append, List.length_append, List.length_replicate]; omega
   have hcl4 : ((rows.take i).flatten ++ (((rows.drop i).flatten ++ (List.replicate 8 AV.any ++ List.replicate ((cap - rows.length - 1) * 8) AV.any)).take 8 ++ ((rows.drop i).flatten ++ List.replicate ((cap - rows.length - 1) * 8) AV.any))).length = i * 8 + (8 + ((rows.length - i) * 8 + (cap - rows.length - 1) * 8)) := by rw [List.length_append, List.length_append, List.length_append, ← hT, hAl, dr_len hel, List.length_replicate, List.append_nil, hrl]
   refine AWp_regL ?_
   refine zg2 ?_
   refine zt rfl (op_sliceArr _ _ rfl Tryz.underlying25 Tryz.sizeOf28 rfl (get_set hpl) (by first | exact ⟨_, rfl⟩ | rfl) (by first | exact ⟨_, rfl⟩ | rfl) (by omega) (by omega) (by omega)) ?_
   refine zg1 ?_
   refine zt rfl (op_copyA (sz := 8) (m := 1) (n := 1) (ds := row ++ []) rfl Tryz.underlying25 Tryz.sizeOf28 rfl (get_set hpl) (by omega) (by decide) (by rw [hcl4]; omega) rfl (src_all rfl rfl) (by omega) (by rw [List.append_nil, hrl]) (by rw [List.append_nil]; exact hone2)) ?_
   refine zon ?_
   refine zw2 ?_
   have hfin : ((rows.take i).flatten ++ ((row ++ []) ++ ((rows.drop i).flatten ++ List.replicate ((cap - rows.length - 1) * 8) AV.any))) = (rows.take i ++ row :: rows.drop i).flatten ++ List.replicate ((cap - rows.length - 1) * 8) AV.any := by rw [ins_flat, List.append_nil]; simp only [List.append_assoc]
   have hfl2 : (rows.take i ++ row :: rows.drop i).flatten.length = (rows.length + 1) * 8 := by rw [flatten_len (ins_el hel hrl), ins_len hi]
   refine AWp_heap (σ' := σ.set p (.arr 8 (g + 1) ((rows.take i ++ row :: rows.drop i).flatten ++ List.replicate ((cap - rows.length - 1) * 8) AV.any))) (by rw [List.set_set, h3i, cpy hAl hT, hfin]) ?_
   refine AWp_freezeC 6 p (g + 1) 8 _ (rows.take i ++ row :: rows.drop i) rfl (get_set hpl) (List.take_left' (by rw [hfl2]; omega)).symm (ins_el hel hrl) (by rw [ins_len hi]; omega) (by decide) (by rw [List.length_append, hfl2]; omega) ?_ (by decide)
   rw [List.set_set]
   refine zrt ?_
   exact ResQ_S0 (x := .dead) rfl hcl trivial (ins_lt hlt hlt2 _) (Ret_of rfl)
end Lg
set_option maxRecDepth 20000
set_option maxHeartbeats 4000000
namespace Lg
open Go Go.Proofs Go.RowKit
variable [GLay] 
theorem insM_c (rows : List (List AV)) (row : List AV) (i p g : Nat) (σ : List AO) (hp : σ[p]? = some (.arr 9 g rows.flatten)) (hel : ∀ r ∈ rows, r.length = 9) (hrl : row.length = 9) (hone : ones rows.flatten = true) (hone2 : ones row = true) (hlt : ∀ n, AV.ltLL n rows) (hlt2 : ∀ n, AV.ltL n row) (hi : i ≤ rows.length) (hn : rows.length ≤ 1000000) : ACalls Tryz.prog 42 [.arr p g 9 0 rows.length, .int .i64 (i : Int), .sl true 9 [row]] σ (Ret (.sl false 9 (rows.take i ++ row :: rows.drop i)) (σ.set p .dead)) := by
 refine ACalls_body Tryz.func42 rfl Tryz.ntmps42 (res1 Tryz.results42) (Nat.le_of_ble_eq_true rfl) (fun hcl hal => ?_)
 have hpl := (List.getElem?_eq_some_iff.1 hp).1
 have h0i : 0 + ((i : Int)).toNat = i := by omega
 have h1i : 0 + ((i : Int) + 1).toNat = i + 1 := by omega
 have h2i : 0 + Int.toNat 0 + ((i : Int) + 1).toNat = i + 1 := by omega
 have h3i : 0 + Int.toNat 0 + ((i : Int)).toNat = i := by omega
 have hAl : (rows.take i).flatten.length = i * 9 := tk_len hel hi
 have hR1 : (row ++ []).length = (List.replicate 9 AV.any).length := by rw [List.append_nil, hrl, List.length_replicate]
 have hfl : rows.flatten.length = rows.length * 9 := flatten_len hel
 refine zw1 ?_
 refine zu2 ?_
 refine zt rfl (op_sliceArr _ _ rfl Tryz.underlying26 Tryz.sizeOf64 rfl hp (by first | exact ⟨_, rfl⟩ | rfl) (by first | exact ⟨_, rfl⟩ | rfl) (by omega) (by omega) (by omega)) ?_
 refine zon ?_
 refine zu1 ?_
 refine zt rfl (op_lenS rfl rfl Tryz.underlying26 rfl rfl trivial) ?_
 rw [show (([row].length : Nat) : Int) = 1 from rfl]
 refine zv1 ?_
 refine AWp_seq ?_
 refine zw2 ?_
 refine AWp_condF rfl ?_
 refine AWp_skip ?_
 refine zu1 ?_
 refine zt rfl (op_lenS rfl rfl Tryz.underlying26 rfl rfl ⟨_, _, hp⟩) ?_
 refine zv1 ?_
 refine AWp_seq ?_
 refine zw3 ?_
 refine AWp_cond rfl (fun h1 => ?_) (fun h1 => ?_)
 ·(try rw [h1]); replace h1 := zcl h1
  refine zu2 ?_
  refine zt rfl (op_appendArr (p := p) (gg := g) (off := 0) (len := rows.length) (sz := 9) (m := 1) (cs := row ++ []) rfl (.inr ⟨_, rfl⟩) Tryz.underlying26 Tryz.underlying26 Tryz.type64 rfl rfl rfl (by decide) rfl hp (by rw [Nat.zero_add, hfl]) rfl rfl (by rw [List.append_nil]; exact hone2) (by show (rows.length + 1) * 128 ≤ _; omega) (by omega) (by rw [List.append_nil, hrl])) ?_
  refine zv1 ?_
  refine AWp_heap (σ' := σ.set p (.arr 9 (g + 1) (rows ++ [row]).flatten)) (by rw [Nat.zero_mul, List.drop_zero, List.append_nil, List.flatten_append]; simp) ?_
  refine AWp_freezeC 6 p (g + 1) 9 (rows.length + 1) (rows ++ [row]) rfl (get_set hpl) (by rw [List.take_of_length_le (by rw [List.flatten_append, List.length_append, hfl]; simp [hrl]; omega)]) (by have := ins_el (i := rows.length) hel hrl; rwa [ins_end] at this) (by simp) (by decide) (by rw [List.flatten_append, List.length_append, hfl]; simp [hrl]; omega) ?_ (by decide)
  have hie : i = rows.length := by omega
  subst hie
  rw [List.set_set, ins_end]
  refine zrt ?_
  exact ResQ_S0 (x := .dead) rfl hcl trivial (by have := ins_lt (i := rows.length) hlt hlt2 σ.length; rw [ins_end] at this; exact this) (Ret_of rfl)
 ·(try rw [h1]); replace h1 := zcl h1
  refine AWp_skip ?_
  refine AWp_seq ?_
  refine AWp_seq ?_
  refine AWp_reveal 0 p g 9 rows.length rfl hp hfl (by omega) (by decide) (by decide) (fun cap hcap => ?_)
  refine AWp_regL ?_
  refine zg4 ?_
  refine zt rfl (op_capC rfl rfl Tryz.underlying26 rfl (get_set hpl)) ?_
  refine zv1 ?_
  refine AWp_cond rfl (fun h2 => ?_) (fun h2 => ?_)
  ·(try rw [h2]); replace h2 := zcl h2
   refine zu2 ?_
   refine zt rfl (op_sliceC _ _ rfl Tryz.underlying26 Tryz.sizeOf64 rfl (get_set hpl) (by first | exact ⟨_, rfl⟩ | rfl) (by first | exact ⟨_, rfl⟩ | rfl) (by omega) (by omega) (by omega) (by omega)) ?_
   refine zg5 ?_
   rw [show ((rows.length : Int) + 1 - (i : Int)) = ((rows.length + 1 - i : Nat) : Int) by omega]
   refine zt rfl (op_appendZ (sz := 9) (p := p) (g := g + 1) (off := 0) (len := i) (cap := cap) (k := rows.length + 1 - i) rfl Tryz.underlying26 Tryz.underlying3 Tryz.type64 rfl rfl rfl rfl (get_set hpl) (by decide) (by omega) (by rw [List.length_append, hfl]; omega) rfl (by omega) (by show (i + (rows.length + 1 - i)) * 128 ≤ _; omega) (by omega)) ?_
   rw [List.length_set]
   refine zv1 ?_
   refine AWp_seq ?_
   refine AWp_heap (σ' := σ.set p (.arr 9 (g + 1) (rows.flatten ++ List.replicate ((cap - rows.length) * 9) .any)) ++ [.arr 9 0 ((rows.take i).flatten ++ (List.replicate 9 AV.any ++ List.replicate ((rows.length - i) * 9) AV.any))]) (by rw [grow_cells hel (by omega)]) ?_
   refine AWp_slotLe 0 rfl (AVle.capA _ _ _ _ _ _) ?_ (by decide)
   have hcl1 : ((rows.take i).flatten ++ (List.replicate 9 AV.any ++ List.replicate ((rows.length - i) * 9) AV.any)).length = i * 9 + (9 + (rows.length - i) * 9) := by rw [List.length_append, List.length_append, hAl, List.length_replicate, List.length_replicate]
   refine AWp_regL ?_
   refine zg2 ?_
   refine zt rfl (op_sliceArr _ _ rfl Tryz.underlying26 Tryz.sizeOf64 rfl get_set1 (by first | exact ⟨_, rfl⟩ | rfl) (by first | exact ⟨_, rfl⟩ | rfl) (by omega) (by omega) (by omega)) ?_
   refine zg1 ?_
   refine zt rfl (op_copyA (sz := 9) (m := 1) (n := 1) (ds := row ++ []) rfl Tryz.underlying26 Tryz.sizeOf64 rfl get_set1 (by omega) (by decide) (by rw [hcl1]; omega) rfl (src_all rfl rfl) (by omega) (by rw [List.append_nil, hrl]) (by rw [List.append_nil]; exact hone2)) ?_
   refine zon ?_
   refine AWp_seq ?_
   refine AWp_heap (σ' := σ.set p (.arr 9 (g + 1) (rows.flatten ++ List.replicate ((cap - rows.length) * 9) .any)) ++ [.arr 9 0 ((rows.take i).flatten ++ ((row ++ []) ++ List.replicate ((rows.length - i) * 9) AV.any))]) (by rw [set_set1, h0i, cpy hAl hR1]) ?_
   have hcl2 : ((rows.take i).flatten ++ ((row ++ []) ++ List.replicate ((rows.length - i) * 9) AV.any)).length = i * 9 + (9 + (rows.length - i) * 9) := by rw [List.length_append, List.length_append, hAl, List.length_replicate, List.append_nil, hrl]
   refine AWp_drawL #[0, 0, 0, 6, 15, 0, 0, 96, 255] Tryz.mixed (by decide +kernel) (by decide +kernel) ?_
   refine zd4 ?_
   refine yP rfl rfl (op_sliceArr _ _ rfl Tryz.underlying26 Tryz.sizeOf64 rfl get_set1 (by first | exact ⟨_, rfl⟩ | rfl) (by first | exact ⟨_, rfl⟩ | rfl) (by omega) (by omega) (by omega)) (trivial) ?_
   refine zd2 ?_
   refine yP rfl rfl (op_sliceArr _ _ rfl Tryz.underlying26 Tryz.sizeOf64 rfl (get_setB hpl) (by first | exact ⟨_, rfl⟩ | rfl) (by first | exact ⟨_, rfl⟩ | rfl) (by omega) (by omega) (by omega)) (trivial) ?_
   refine yE rfl rfl (op_copyA (sz := 9) (n := rows.length - i) (ds := (rows.drop i).flatten) rfl Tryz.underlying26 Tryz.sizeOf64 rfl get_set1 (by omega) (by decide) (by rw [hcl2]; omega) rfl (src_rows (get_setB hpl) hel (by omega) hi (by omega) (by rw [List.length_append, hfl]; omega)) (by omega) (dr_len hel) (ones_drop i hone)) (⟨.inl rfl, ⟨.inl rfl, trivial⟩⟩) (trivial) ?_
   refine RP.nil rfl ?_
   refine zw2 ?_
   have hfin : ((rows.take i).flatten ++ ((row ++ []) ++ (rows.drop i).flatten)) = (rows.take i ++ row :: rows.drop i).flatten := by rw [ins_flat, List.append_nil]
   have hfl2 : (rows.take i ++ row :: rows.drop i).flatten.length = (rows.length + 1) * 9 := by rw [flatten_len (ins_el hel hrl), ins_len hi]
   refine AWp_heap (σ' := σ.set p (.arr 9 (g + 1) (rows.flatten ++ List.replicate ((cap - rows.length) * 9) .any)) ++ [.arr 9 0 (rows.take i ++ row :: rows.drop i).flatten]) (by rw [set_set1, h1i, cpy2 (by rw [hAl, List.append_nil, hrl]; omega) (by rw [dr_len hel, List.length_replicate]), hfin]) ?_
   refine AWp_freezeC 6 σ.length 0 9 (i + (rows.length + 1 - i)) (rows.take i ++ row :: rows.drop i) rfl get_set1 (List.take_of_length_le (by rw [hfl2]; omega)).symm (ins_el hel hrl) (by rw [ins_len hi]; omega) (by decide) (by rw [hfl2]; omega) ?_ (by decide)
   rw [set_set1]
   refine AWp_freezeC 0 p (g + 1) 9 rows.length rows rfl (get_setB hpl) (by rw [← hfl, List.take_left]) hel rfl (by decide) (by rw [List.length_append, hfl]; omega) ?_ (by decide)
   rw [set_setB hpl]
   refine zrt ?_
   exact ResQ_S (x := .dead) rfl hcl trivial (ins_lt hlt hlt2 _) (Ret_of rfl)
  ·(try rw [h2]); replace h2 := zcl h2
   refine AWp_skip ?_
   refine zu4 ?_
   refine zt rfl (op_sliceC _ _ rfl Tryz.underlying26 Tryz.sizeOf64 rfl (get_set hpl) (by first | exact ⟨_, rfl⟩ | rfl) (by first | exact ⟨_, rfl⟩ | rfl) (by omega) (by omega) (by omega) (by omega)) ?_
   refine zv1 ?_
   refine AWp_seq ?_
   refine zu5 ?_
   refine zt rfl (op_sliceC _ _ rfl Tryz.underlying26 Tryz.sizeOf64 rfl (get_set hpl) (by first | exact ⟨_, rfl⟩ | rfl) (by first | exact ⟨_, rfl⟩ | rfl) (by omega) (by omega) (by omega) (by omega)) ?_
   refine zt rfl (op_overlapsS (tS := 26) (tR := 4) rfl Tryz.func73 (by kernel_rfl) (by kernel_rfl) (by kernel_rfl) (by kernel_rfl) Tryz.underlying26 Tryz.sizeOf64 rfl rfl (get_set hpl) (by decide) (by omega)) ?_
   refine zv1 ?_
   refine AWp_condT rfl ?_
   refine AWp_seq ?_
   refine AWp_slotLe 0 rfl (AVle.capA _ _ _ _ _ _) ?_ (by decide)
   have hroom := room_cells (cap := cap) hel (show i < rows.length by omega) (by omega)
   have hcl3 : (rows.flatten ++ List.replicate ((cap - rows.length) * 9) AV.any).length = rows.length * 9 + (cap - rows.length) * 9 := by rw [List.length_append, hfl, List.length_replicate]
   refine AWp_drawL #[0, 0, 0, 6, 15, 0, 0, 96, 255] Tryz.mixed (by decide +kernel) (by decide +kernel) ?_
   refine zd4 ?_
   refine yP rfl rfl (op_sliceArr _ _ rfl Tryz.underlying26 Tryz.sizeOf64 rfl (get_set hpl) (by first | exact ⟨_, rfl⟩ | rfl) (by first | exact ⟨_, rfl⟩ | rfl) (by omega) (by omega) (by omega)) (trivial) ?_
   refine zd2 ?_
   refine yP rfl rfl (op_sliceArr _ _ rfl Tryz.underlying26 Tryz.sizeOf64 rfl (get_set hpl) (by first | exact ⟨_, rfl⟩ | rfl) (by first | exact ⟨_, rfl⟩ | rfl) (by omega) (by omega) (by omega)) (trivial) ?_
   refine yE rfl rfl (op_copyA (sz := 9) (n := rows.length - i) (ds := (rows.drop i).flatten) rfl Tryz.underlying26 Tryz.sizeOf64 rfl (get_set hpl) (by omega) (by decide) (by rw [hcl3]; omega) rfl (src_rows (get_set hpl) hel (by omega) hi (by omega) (by rw [hcl3]; omega)) (by omega) (dr_len hel) (ones_drop i hone)) (⟨.inl rfl, ⟨.inl rfl, trivial⟩⟩) (trivial) ?_
   refine RP.nil rfl ?_
   refine AWp_seq ?_
   refine AWp_heap (σ' := σ.set p (.arr 9 (g + 1) ((rows.take i).flatten ++ (((rows.drop i).flatten ++ (List.replicate 9 AV.any ++ List.replicate ((cap - rows.length - 1) * 9) AV.any)).take 9 ++ ((rows.drop i).flatten ++ List.replicate ((cap - rows.length - 1) * 9) AV.any))))) (by rw [List.set_set, hroom, h2i, shiftc2 hAl]) ?_
   have hT : (row ++ []).length = (((rows.drop i).flatten ++ (List.replicate 9 AV.any ++ List.replicate ((cap - rows.length - 1) * 9) AV.any)).take 9).length := by rw [List.append_nil, hrl, List.length_take, List.length_append, List.length_append, List.length_replicate]; omega
   have hcl4 : ((rows.take i).flatten ++ (((rows.drop i).flatten ++ (List.replicate 9 AV.any ++ List.replicate ((cap - rows.length - 1) * 9) AV.any)).take 9 ++ ((rows.drop i).flatten ++ List.replicate ((cap - rows.length - 1) * 9) AV.any))).length = i * 9 + (9 + ((rows.length - i) * 9 + (cap - rows.length - 1) * 9)) := by rw [List.length_append, List.length_append, List.length_append, ← hT, hAl, dr_len hel, List.length_replicate, List.append_nil, hrl]
   refine AWp_regL ?_
   refine zg2 ?_
   refine zt rfl (op_sliceArr _ _ rfl Tryz.underlying26 Tryz.sizeOf64 rfl (get_set hpl) (by first | exact ⟨_, rfl⟩ | rfl) (by first | exact ⟨_, rfl⟩ | rfl) (by omega) (by omega) (by omega)) ?_
   refine zg1 ?_
   refine zt rfl (op_copyA (sz := 9) (m := 1) (n := 1) (ds := row ++ []) rfl Tryz.underlying26 Tryz.sizeOf64 rfl (get_set hpl) (by omega) (by decide) (by rw [hcl4]; omega) rfl (src_all rfl rfl) (by omega) (by rw [List.append_nil, hrl]) (by rw [List.append_nil]; exact hone2)) ?_
   refine zon ?_
   refine zw2 ?_
   have hfin : ((rows.take i).flatten ++ ((row ++ []) ++ ((rows.drop i).flatten ++ List.replicate ((cap - rows.length - 1) * 9) AV.any))) = (rows.take i ++ row :: rows.drop i).flatten ++ List.replicate ((cap - rows.length - 1) * 9) AV.any := by rw [ins_flat, List.append_nil]; simp only [List.append_assoc]
   have hfl2 : (rows.take i ++ row :: rows.drop i).flatten.length = (rows.length + 1) * 9 := by rw [flatten_len (ins_el hel hrl), ins_len hi]
   refine AWp_heap (σ' := σ.set p (.arr 9 (g + 1) ((rows.take i ++ row :: rows.drop i).flatten ++ List.replicate ((cap - rows.length - 1) * 9) AV.any))) (by rw [List.set_set, h3i, cpy hAl hT, hfin]) ?_
   refine AWp_freezeC 6 p (g + 1) 9 _ (rows.take i ++ row :: rows.drop i) rfl (get_set hpl) (List.take_left' (by rw [hfl2]; omega)).symm (ins_el hel hrl) (by rw [ins_len hi]; omega) (by decide) (by rw [List.length_append, hfl2]; omega) ?_ (by decide)
   rw [List.set_set]
   refine zrt ?_
   exact ResQ_S0 (x := .dead) rfl hcl trivial (ins_lt hlt hlt2 _) (Ret_of rfl)
end Lg
namespace Lg
open Go Go.RowKit
variable [GLay]
section
variable {P : Program} {σ : List AO} {e : Env} {o : Oper}
theorem run_slice3 {w : World} {T E : TypeId} {sz len cap : Nat} {A : Option Addr} {k1 k2 k3 : IntKind} {l h m : Int} (hu : P.underlying T = some (.slice E)) (hsz : ∀ w, (Go.sizeOf E).run P w = Result.ok sz w)
    (h0 : 0 ≤ l) (h1 : l ≤ h) (h2 : h ≤ m) (h3 : m ≤ cap) :
    ∃ v, (Instr.sliceAt T (.slice A len cap) (some (.int k1 l)) (some (.int k2 h)) (some (.int k3 m))).run P w = .ok v w := by
  have e0 : 0 ≤ h := by omega
  have e1 : 0 ≤ m := by omega
  have e2 : h ≤ max m 0 := by omega
  have e3 : l ≤ max h 0 := by omega
  refine ⟨_, by simp [Instr.sliceAt, Instr.slice, Instr.sliceBounds, Instr.sliceBound, asIntOf, run_underlying hu, hsz, h0, e0, e1, h3, e2, e3]; rfl⟩
theorem op_slice3C {T E : TypeId} {x lo hi mx : Operand} {sz p g off len cap : Nat} {cs : List AV} {k1 k2 k3 : IntKind} {l h m : Int} (ho : o.op = .slice T x (some lo) (some hi) (some mx)) (hu : P.underlying T = some (.slice E))
    (hsz : ∀ w, (Go.sizeOf E).run P w = Result.ok sz w) (hx : opO e x = some (.arrC p g sz off len cap)) (hσ : σ[p]? = some (.arr sz g cs)) (hl : opO e lo = some (.int k1 l)) (hh : opO e hi = some (.int k2 h)) (hm : opO e mx = some (.int k3 m))
    (h0 : 0 ≤ l) (h1 : l ≤ h) (h2 : h ≤ m) (h3 : m ≤ cap) : AOp P σ e o .any σ :=
  .of_run fun s a hs _ hv => by
    subst hs
    have hxv := (opO_eq hx ▸ hv x (by simp [ho, Op.operands])).inv_arrC hσ
    have h5 := (opO_eq hl ▸ hv lo (by simp [ho, Op.operands])).inv_int
    have h6 := (opO_eq hh ▸ hv hi (by simp [ho, Op.operands])).inv_int
    have h7 := (opO_eq hm ▸ hv mx (by simp [ho, Op.operands])).inv_int
    obtain ⟨_, hA, _, _⟩ := hxv
    obtain ⟨v, hr⟩ := run_slice3 (P := P) (w := s.w) (T := T) (E := E) (sz := sz) (len := len) (cap := cap) (A := some ⟨(s.μ p).b, (s.μ p).base + off * sz, none⟩) (k1 := k1) (k2 := k2) (k3 := k3) hu hsz h0 h1 h2 h3
    refine ⟨v, ?_, .any _⟩
    simp only [execOp, ho, hA, h5, h6, h7, Sem.run_bind, Option.map_some]
    rw [hr]; rfl
end
end Lg
namespace Lg
open Go Go.RowKit
variable [GLay]
section
variable {P : Program} {σ σ' : List AO} {e : Env} {o : Oper}
theorem AOp.resLe {v w : AV} (h : AOp P σ e o v σ') (hle : AVle v w) : AOp P σ e o w σ' := by
  intro s a hs g hv K Q hk hq
  exact h s a hs g hv K Q (fun v' cv s' ⟨hv', hs'⟩ g' x' hV => hk w cv s' ⟨rfl, hs'⟩ g' x' (hle _ _ (hv' ▸ hV))) hq
theorem op_sliceCB {T E : TypeId} {x : Operand} {lo hi : Option Operand} {sz p g off len cap : Nat} {cs : List AV} (l h : Int) (ho : o.op = .slice T x lo hi none) (hu : P.underlying T = some (.slice E))
    (hsz : ∀ w, (Go.sizeOf E).run P w = Result.ok sz w) (hx : opO e x = some (.arrC p g sz off len cap)) (hσ : σ[p]? = some (.arr sz g cs))
    (hl : bnd e 0 l lo) (hh : bnd e (len : Nat) h hi) (h0 : 0 ≤ l) (h1 : l ≤ h) (h2 : h ≤ cap) (h3 : l < cap) : AOp P σ e o (.arr p g sz (off + l.toNat) (h.toNat - l.toNat)) σ :=
  (op_sliceC l h ho hu hsz hx hσ hl hh h0 h1 h2 h3).resLe (AVle.capA _ _ _ _ _ _)
theorem op_sliceCA {T E : TypeId} {x : Operand} {lo hi : Option Operand} {sz p g off len cap : Nat} {cs : List AV} (l h : Int) (ho : o.op = .slice T x lo hi none) (hu : P.underlying T = some (.slice E))
    (hsz : ∀ w, (Go.sizeOf E).run P w = Result.ok sz w) (hx : opO e x = some (.arrC p g sz off len cap)) (hσ : σ[p]? = some (.arr sz g cs))
    (hl : bnd e 0 l lo) (hh : bnd e (len : Nat) h hi) (h0 : 0 ≤ l) (h1 : l ≤ h) (h2 : h ≤ len) : AOp P σ e o (.arr p g sz (off + l.toNat) (h.toNat - l.toNat)) σ :=
  .of_run fun s a hs _ hv => by
    subst hs
    have hxv := (opO_eq hx ▸ hv x (by simp [ho, Op.operands])).inv_arrC hσ
    have hl' := hl.ev (s := s) (a := a) (fun y hy => hv y (by subst hy; simp [ho, Op.operands]))
    have hh' := hh.ev (s := s) (a := a) (fun y hy => hv y (by subst hy; simp [ho, Op.operands]))
    obtain ⟨_, h3, h4, h5⟩ := hxv
    refine ⟨_, by simp only [execOp, ho, h3, Sem.run_bind, Option.map_none]; rw [run_slice_slice (cap := cap) hu hsz hl' hh' h0 h1 (by omega)]; rfl, ?_⟩
    refine .arr p g sz _ _ _ rfl ?_
    unfold ArrAt; rw [hσ]
    refine ⟨Nat.le_refl _, fun _ => ⟨rfl, ?_⟩⟩
    by_cases hcl : cap = l.toNat
    · have e1 : h.toNat - l.toNat = 0 := by omega
      have e2 : cap - l.toNat = 0 := by omega
      rw [e1, e2]
      exact .inl ⟨_, rfl, rfl⟩
    · refine .inr ⟨cap - l.toNat, ?_, by omega, ?_⟩
      · rw [if_neg hcl]; simp only [Option.map_some, add_none]; rw [Nat.add_mul, Nat.add_assoc]
      · rw [show off + l.toNat + (cap - l.toNat) = off + cap by omega]; exact h5
end
end Lg
set_option maxRecDepth 20000
set_option maxHeartbeats 4000000
namespace Lg
open Go Go.Proofs Go.RowKit
variable [GLay] 
theorem delV_c (rows : List (List AV)) (i p g : Nat) (σ : List AO) (hp : σ[p]? = some (.arr 8 g rows.flatten)) (hel : ∀ r ∈ rows, r.length = 8) (hone : ones rows.flatten = true) (hlt : ∀ n, AV.ltLL n rows) (hi : i < rows.length) (hn : rows.length ≤ 1000000) : ACalls Tryz.prog 44 [.arr p g 8 0 rows.length, .int .i64 (i : Int), .int .i64 ((i : Int) + 1)] σ (Ret (.sl false 8 (rows.take i ++ rows.drop (i + 1))) (σ.set p .dead)) := by
 refine ACalls_body Tryz.func44 rfl Tryz.ntmps44 (res1 Tryz.results44) (Nat.le_of_ble_eq_true rfl) (fun hcl hal => ?_)
 have hpl := (List.getElem?_eq_some_iff.1 hp).1
 have hAl : (rows.take i).flatten.length = i * 8 := tk_len hel (by omega)
 have hDl : (rows.drop (i + 1)).flatten.length = (rows.length - (i + 1)) * 8 := dr_len hel
 have hz0 : (0 + Int.toNat 0) * 8 + (((i : Int)).toNat - Int.toNat 0) * 8 = i * 8 := by omega
 have hfl : rows.flatten.length = rows.length * 8 := flatten_len hel
 refine zw1 ?_
 refine AWp_seq ?_
 refine AWp_reveal 0 p g 8 rows.length rfl hp hfl (by omega) (by decide) (by decide) (fun cap hcap => ?_)
 have hcl3 : (rows.flatten ++ List.replicate ((cap - rows.length) * 8) AV.any).length = rows.length * 8 + (cap - rows.length) * 8 := by rw [List.length_append, hfl, List.length_replicate]
 refine AWp_regL ?_
 refine zg4 ?_
 refine zt rfl (op_lenS rfl rfl Tryz.underlying25 rfl rfl ⟨_, _, get_set hpl⟩) ?_
 refine zt rfl (op_slice3C rfl Tryz.underlying25 Tryz.sizeOf28 rfl (get_set hpl) rfl rfl rfl (by omega) (by omega) (by omega) (by omega)) ?_
 refine zon ?_
 refine AWp_seq ?_
 refine zu2 ?_
 refine zt rfl (op_eqlF rfl rfl rfl (by omega)) ?_
 refine zon ?_
 refine AWp_condF rfl ?_
 refine AWp_skip ?_
 refine zu1 ?_
 refine zt rfl (op_lenS rfl rfl Tryz.underlying25 rfl rfl ⟨_, _, get_set hpl⟩) ?_
 refine zv1 ?_
 refine AWp_seq ?_
 refine AWp_drawL #[0, 0, 3, 0, 0, 24, 63, 127] Tryz.mixed (by decide +kernel) (by decide +kernel) ?_
 refine zd2 ?_
 refine yP rfl rfl (op_sliceC _ _ rfl Tryz.underlying25 Tryz.sizeOf28 rfl (get_set hpl) (by first | exact ⟨_, rfl⟩ | rfl) (by first | exact ⟨_, rfl⟩ | rfl) (by omega) (by omega) (by omega) (by omega)) (trivial) ?_
 refine zd2 ?_
 refine yP rfl rfl (op_sliceCA _ _ rfl Tryz.underlying25 Tryz.sizeOf28 rfl (get_set hpl) (by first | exact ⟨_, rfl⟩ | rfl) (by first | exact ⟨_, rfl⟩ | rfl) (by omega) (by omega) (by omega)) (trivial) ?_
 refine yE rfl rfl (op_appendIn (z := .nilIface) (sz := 8) (ds := (rows.drop (i + 1)).flatten) (yv := .arr p (g + 1) 8 (0 + ((i : Int) + 1).toNat) ((rows.length : Int).toNat - ((i : Int) + 1).toNat)) (m := (rows.length : Int).toNat - ((i : Int) + 1).toNat) rfl (.inr ⟨_, rfl⟩) Tryz.underlying25 Tryz.underlying25 Tryz.type28 rfl rfl (get_set hpl) (by decide) (by omega) rfl (src_rows2 (i := i + 1) (get_set hpl) hel (by omega) (by omega) (by omega)) (by rw [hDl]; omega) (ones_drop _ hone) (by omega) (by rw [hcl3]; omega)) (⟨.inl rfl, ⟨.inl rfl, trivial⟩⟩) (trivial) ?_
 refine zd1 ?_
 refine RP.nil rfl ?_
 refine AWp_seq ?_
 have hEl : ((rows.flatten ++ List.replicate ((cap - rows.length) * 8) AV.any).drop (i * 8 + (rows.drop (i + 1)).flatten.length)).length = rows.length * 8 + (cap - rows.length) * 8 - (i * 8 + (rows.length - (i + 1)) * 8) := by rw [List.length_drop, hcl3, hDl]
 refine AWp_heap (σ' := σ.set p (.arr 8 (g + 1) ((rows.take i).flatten ++ ((rows.drop (i + 1)).flatten ++ ((rows.flatten ++ List.replicate ((cap - rows.length) * 8) AV.any).drop (i * 8 + (rows.drop (i + 1)).flatten.length)))))) (by rw [List.set_set, hz0, del_cells hel (by omega)]) ?_
 have hcl4 : ((rows.take i).flatten ++ ((rows.drop (i + 1)).flatten ++ ((rows.flatten ++ List.replicate ((cap - rows.length) * 8) AV.any).drop (i * 8 + (rows.drop (i + 1)).flatten.length)))).length = i * 8 + ((rows.length - (i + 1)) * 8 + (rows.length * 8 + (cap - rows.length) * 8 - (i * 8 + (rows.length - (i + 1)) * 8))) := by rw [List.length_append, List.length_append, hEl, hAl, hDl]
 refine AWp_regL ?_
 refine zg2 ?_
 refine zt rfl (op_lenS rfl rfl Tryz.underlying25 rfl rfl ⟨_, _, get_set hpl⟩) ?_
 refine zg1 ?_
 refine zt rfl (op_sliceCB _ _ rfl Tryz.underlying25 Tryz.sizeOf28 rfl (get_set hpl) (by first | exact ⟨_, rfl⟩ | rfl) (by first | exact ⟨_, rfl⟩ | rfl) (by omega) (by omega) (by omega) (by omega)) ?_
 refine ztN rfl rfl (op_clearA (sz := 8) rfl rfl Tryz.underlying25 Tryz.zeroValue28 rfl (by decide) rfl (get_set hpl) (by omega) (by decide) (by rw [hcl4]; omega)) ?_
 refine zon ?_
 refine zw2 ?_
 have hAD : ((rows.take i).flatten ++ (rows.drop (i + 1)).flatten).length = (rows.length - 1) * 8 := by rw [List.length_append, hAl, hDl]; omega
 refine AWp_slotLe 6 rfl (AVle.capA _ _ _ _ _ _) ?_ (by decide)
 rw [List.set_set]
 refine AWp_freezeC 6 p (g + 1) 8 _ (rows.take i ++ rows.drop (i + 1)) rfl (get_set hpl) (by rw [List.flatten_append]; exact (del_fin2 hAD (by omega) (by omega)).symm) (del_el hel) (by rw [del_len hi]; omega) (by decide) (fit_of_take (by rw [del_fin2 hAD (by omega) (by omega), hAD]; omega)) ?_ (by decide)
 rw [List.set_set]
 refine zrt ?_
 exact ResQ_S0 (x := .dead) rfl hcl trivial (del_lt hlt _) (Ret_of rfl)
end Lg
set_option maxRecDepth 20000
set_option maxHeartbeats 4000000
namespace Lg
open Go Go.Proofs Go.RowKit
variable [GLay] 
theorem delM_c (rows : List (List AV)) (i p g : Nat) (σ : List AO) (hp : σ[p]? = some (.arr 9 g rows.flatten)) (hel : ∀ r ∈ rows, r.length = 9) (hone : ones rows.flatten = true) (hlt : ∀ n, AV.ltLL n rows) (hi : i < rows.length) (hn : rows.length ≤ 1000000) : ACalls Tryz.prog 45 [.arr p g 9 0 rows.length, .int .i64 (i : Int), .int .i64 ((i : Int) + 1)] σ (Ret (.sl false 9 (rows.take i ++ rows.drop (i + 1))) (σ.set p .dead)) := by
 refine ACalls_body Tryz.func45 rfl Tryz.ntmps45 (res1 Tryz.results45) (Nat.le_of_ble_eq_true rfl) (fun hcl hal => ?_)
 have hpl := (List.getElem?_eq_some_iff.1 hp).1
 have hAl : (rows.take i).flatten.length = i * 9 := tk_len hel (by omega)
 have hDl : (rows.drop (i + 1)).flatten.length = (rows.length - (i + 1)) * 9 := dr_len hel
 have hz0 : (0 + Int.toNat 0) * 9 + (((i : Int)).toNat - Int.toNat 0) * 9 = i * 9 := by omega
 have hfl : rows.flatten.length = rows.length * 9 := flatten_len hel
 refine zw1 ?_
 refine AWp_seq ?_
 refine AWp_reveal 0 p g 9 rows.length rfl hp hfl (by omega) (by decide) (by decide) (fun cap hcap => ?_)
 have hcl3 : (rows.flatten ++ List.replicate ((cap - rows.length) * 9) AV.any).length = rows.length * 9 + (cap - rows.length) * 9 := by rw [List.length_append, hfl, List.length_replicate]
 refine AWp_regL ?_
 refine zg4 ?_
 refine zt rfl (op_lenS rfl rfl Tryz.underlying26 rfl rfl ⟨_, _, get_set hpl⟩) ?_
 refine zt rfl (op_slice3C rfl Tryz.underlying26 Tryz.sizeOf64 rfl (get_set hpl) rfl rfl rfl (by omega) (by omega) (by omega) (by omega)) ?_
 refine zon ?_
 refine AWp_seq ?_
 refine zu2 ?_
 refine zt rfl (op_eqlF rfl rfl rfl (by omega)) ?_
 refine zon ?_
 refine AWp_condF rfl ?_
 refine AWp_skip ?_
 refine zu1 ?_
 refine zt rfl (op_lenS rfl rfl Tryz.underlying26 rfl rfl ⟨_, _, get_set hpl⟩) ?_
 refine zv1 ?_
 refine AWp_seq ?_
 refine AWp_drawL #[0, 0, 3, 0, 0, 24, 63, 127] Tryz.mixed (by decide +kernel) (by decide +kernel) ?_
 refine zd2 ?_
 refine yP rfl rfl (op_sliceC _ _ rfl Tryz.underlying26 Tryz.sizeOf64 rfl (get_set hpl) (by first | exact ⟨_, rfl⟩ | rfl) (by first | exact ⟨_, rfl⟩ | rfl) (by omega) (by omega) (by omega) (by omega)) (trivial) ?_
 refine zd2 ?_
 refine yP rfl rfl (op_sliceCA _ _ rfl Tryz.underlying26 Tryz.sizeOf64 rfl (get_set hpl) (by first | exact ⟨_, rfl⟩ | rfl) (by first | exact ⟨_, rfl⟩ | rfl) (by omega) (by omega) (by omega)) (trivial) ?_
 refine yE rfl rfl (op_appendIn (z := .nilIface) (sz := 9) (ds := (rows.drop (i + 1)).flatten) (yv := .arr p (g + 1) 9 (0 + ((i : Int) + 1).toNat) ((rows.length : Int).toNat - ((i : Int) + 1).toNat)) (m := (rows.length : Int).toNat - ((i : Int) + 1).toNat) rfl (.inr ⟨_, rfl⟩) Tryz.underlying26 Tryz.underlying26 Tryz.type64 rfl rfl (get_set hpl) (by decide) (by omega) rfl (src_rows2 (i := i + 1) (get_set hpl) hel (by omega) (by omega) (by omega)) (by rw [hDl]; omega) (ones_drop _ hone) (by omega) (by rw [hcl3]; omega)) (⟨.inl rfl, ⟨.inl rfl, trivial⟩⟩) (trivial) ?_
 refine zd1 ?_
 refine RP.nil rfl ?_
 refine AWp_seq ?_
 have hEl : ((rows.flatten ++ List.replicate ((cap - rows.length) * 9) AV.any).drop (i * 9 + (rows.drop (i + 1)).flatten.length)).length = rows.length * 9 + (cap - rows.length) * 9 - (i * 9 + (rows.length - (i + 1)) * 9) := by rw [List.length_drop, hcl3, hDl]
 refine AWp_heap (σ' := σ.set p (.arr 9 (g + 1) ((rows.take i).flatten ++ ((rows.drop (i + 1)).flatten ++ ((rows.flatten ++ List.replicate ((cap - rows.length) * 9) AV.any).drop (i * 9 + (rows.drop (i + 1)).flatten.length)))))) (by rw [List.set_set, hz0, del_cells hel (by omega)]) ?_
 have hcl4 : ((rows.take i).flatten ++ ((rows.drop (i + 1)).flatten ++ ((rows.flatten ++ List.replicate ((cap - rows.length) * 9) AV.any).drop (i * 9 + (rows.drop (i + 1)).flatten.length)))).length = i * 9 + ((rows.length - (i + 1)) * 9 + (rows.length * 9 + (cap - rows.length) * 9 - (i * 9 + (rows.length - (i + 1)) * 9))) := by rw [List.length_append, List.length_append, hEl, hAl, hDl]
 refine AWp_regL ?_
 refine zg2 ?_
 refine zt rfl (op_lenS rfl rfl Tryz.underlying26 rfl rfl ⟨_, _, get_set hpl⟩) ?_
 refine zg1 ?_
 refine zt rfl (op_sliceCB _ _ rfl Tryz.underlying26 Tryz.sizeOf64 rfl (get_set hpl) (by first | exact ⟨_, rfl⟩ | rfl) (by first | exact ⟨_, rfl⟩ | rfl) (by omega) (by omega) (by omega) (by omega)) ?_
 refine ztN rfl rfl (op_clearA (sz := 9) rfl rfl Tryz.underlying26 Tryz.zeroValue64 rfl (by decide) rfl (get_set hpl) (by omega) (by decide) (by rw [hcl4]; omega)) ?_
 refine zon ?_
 refine zw2 ?_
 have hAD : ((rows.take i).flatten ++ (rows.drop (i + 1)).flatten).length = (rows.length - 1) * 9 := by rw [List.length_append, hAl, hDl]; omega
 refine AWp_slotLe 6 rfl (AVle.capA _ _ _ _ _ _) ?_ (by decide)
 rw [List.set_set]
 refine AWp_freezeC 6 p (g + 1) 9 _ (rows.take i ++ rows.drop (i + 1)) rfl (get_set hpl) (by rw [List.flatten_append]; exact (del_fin2 hAD (by omega) (by omega)).symm) (del_el hel) (by rw [del_len hi]; omega) (by decide) (fit_of_take (by rw [del_fin2 hAD (by omega) (by omega), hAD]; omega)) ?_ (by decide)
 rw [List.set_set]
 refine zrt ?_
 exact ResQ_S0 (x := .dead) rfl hcl trivial (del_lt hlt _) (Ret_of rfl)
end Lg
