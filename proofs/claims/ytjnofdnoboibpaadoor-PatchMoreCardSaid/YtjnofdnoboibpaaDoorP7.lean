/- A part of the proof of For all texts and every key the law PatchMore answers true, and they read afterwards as before; the card ties the tables.: M1 Le2 Q1 Sh5 P1 Lg35 E0 P2 W5 W9 Q2 Q4 M2 Le3. -/
import Derived.Test.YtjnofdnoboibpaaDoorP6
import Derived.Test.YtjnofdnoboibpaaDoorP4
import Derived.Test.YtjnofdnoboibpaaDoorP3
import Derived.Test.YtjnofdnoboibpaaDoorP5
import Derived.Shelf.Strings.Replace
import Derived.Shelf.Strings.Split
import Derived.Shelf.Strings.Shaped
import Derived.Test.YtjnofdnoboibpaaDoorProg
set_option linter.unusedVariables false
set_option linter.unusedSimpArgs false
set_option linter.unusedSectionVars false
set_option maxRecDepth 20000
set_option maxHeartbeats 4000000
namespace Lg
open Go Go.Proofs Go.RowKit
variable [GLay] 
theorem ba_nil0 {nm : BL} : (ba nm = ⟨#[]⟩) = (nm = []) := propext ⟨fun h => by have := congrArg ByteArray.size h; rw [ba_size] at this; exact List.eq_nil_of_length_eq_zero this, fun h => by subst h; rfl⟩
theorem ba_minus {nm : BL} : (ba nm = ⟨#[45]⟩) = (nm = [45]) := propext ⟨fun h => by have := congrArg (fun b => b.data.toList) h; rwa [ba_toList] at this, fun h => by subst h; rfl⟩
theorem jixB_len {nm : BL} : jixB nm ↔ (nm.length = 0 ∨ ¬ runl (ba nm) 0 = nm.length ∨ (1 < nm.length ∧ (bat (ba nm) 0).toNat = 48) ∨ 18 < nm.length) := by unfold jixB; rw [List.length_eq_zero_iff]
theorem ridx_c (nm : BL) (n : Nat) (e : Bool) (σ : List AO) (hs : nm.length ≤ 1000000) (hn : n ≤ 1000000000) : ACalls Tryd.prog 48 [.str (ba nm), .int .i64 (n : Int), .bool e] σ (Ret (.tup [.int .i64 (jixN nm n e), .bool (jixO nm n e)]) σ) := by
 refine ACalls_body Tryd.func48 rfl Tryd.ntmps48 (res2 Tryd.results48) (Nat.le_of_ble_eq_true rfl) (fun hcl hal => ?_)
 have hbs := ba_size nm
 refine zw2 ?_
 refine AWp_join (ι := Unit) (fun b => ¬ (e = true ∧ nm = [45])) (fun b => ⟨[], [(0, .str (ba nm)), (1, .int .i64 (n : Int)), (2, .bool e), (6, .int .i64 0), (7, .bool false)]⟩) (fun b => σ) ?_ (fun b hj => ?_)
 ·skip
  refine zu2 ?_
  refine zsp 11 rfl (fun h1 => ?_) fun h1 => ?_
  ·rw [h1]; replace h1 := zcl h1
   refine zv3 ?_
   refine AWp_cond rfl (fun h2 => ?_) (fun h2 => ?_)
   ·(try rw [h2]); replace h2 := zcl h2
    refine zw3 ?_
    refine zrt ?_
    obtain ⟨q1, q2⟩ := jix_minus (n := n) (e := true) rfl (ba_minus ▸ h2)
    rw [q1, q2]
    exact ResQ_20 rfl rfl hcl (by simp [AV.lt, AV.ltL]) (Ret_of rfl)
   ·(try rw [h2]); replace h2 := zcl h2
    refine AWp_skip ?_
    exact ⟨(), (fun x => h2 (ba_minus ▸ x.2)), ⟨rfl, rfl, rfl, rfl, rfl, rfl, trivial⟩, rfl⟩
  ·rw [h1]; replace h1 := zcl h1
   refine zv3 ?_
   refine AWp_condF rfl ?_
   refine AWp_skip ?_
   exact ⟨(), (fun x => by cases x.1), ⟨rfl, rfl, rfl, rfl, rfl, rfl, trivial⟩, rfl⟩
 ·skip
  have hj0 := hj
  clear hj
  refine AWp_seq ?_
  refine AWp_join (ι := Bool) (fun b => b = decide (jixB nm)) (fun b => ⟨[], [(0, .str (ba nm)), (1, .int .i64 (n : Int)), (2, .bool e), (6, .int .i64 0), (7, .bool false), (39, .bool b)]⟩) (fun b => σ) ?_ (fun b hj => ?_)
  ·skip
   refine AWp_regL ?_
   refine zg3 ?_
   refine zsp 18 rfl (fun h3 => ?_) fun h3 => ?_
   ·rw [h3]; replace h3 := zcl h3
    refine zg20 ?_
    refine zg1 ?_
    refine zon ?_
    refine ⟨_, ?_, ⟨rfl, rfl, rfl, rfl, rfl, rfl, rfl, trivial⟩, rfl⟩
    (try rw [ba_nil0, ← List.length_eq_zero_iff] at h3)
    (try rw [show ((0 : Int).toNat) = 0 from rfl] at h4)
    (try rw [show ((0 : Int).toNat) = 0 from rfl] at h6)
    first | exact (decide_eq_true (jixB_len.2 (by omega))).symm | exact (decide_eq_false (fun x => by have := jixB_len.1 x; omega)).symm | exact decide_eq_decide.2 (by rw [jixB_len]; omega)
   ·rw [h3]; replace h3 := zcl h3
    refine zg1 ?_
    refine ztG rfl rfl (zc rfl (run_c _ _ _ (by omega) (by omega) (by omega))) ?_
    refine zg5 ?_
    refine zsp 25 rfl (fun h4 => ?_) fun h4 => ?_
    ·rw [h4]; replace h4 := zcl h4
     refine zg10 ?_
     refine zg4 ?_
     refine zon ?_
     refine ⟨_, ?_, ⟨rfl, rfl, rfl, rfl, rfl, rfl, rfl, trivial⟩, rfl⟩
     (try rw [ba_nil0, ← List.length_eq_zero_iff] at h3)
     (try rw [show ((0 : Int).toNat) = 0 from rfl] at h4)
     (try rw [show ((0 : Int).toNat) = 0 from rfl] at h6)
     first | exact (decide_eq_true (jixB_len.2 (by omega))).symm | exact (decide_eq_false (fun x => by have := jixB_len.1 x; omega)).symm | exact decide_eq_decide.2 (by rw [jixB_len]; omega)
    ·rw [h4]; replace h4 := zcl h4
     refine zg4 ?_
     refine zsp 29 rfl (fun h5 => ?_) fun h5 => ?_
     ·rw [h5]; replace h5 := zcl h5
      refine zg6 ?_
      refine zsp 35 rfl (fun h6 => ?_) fun h6 => ?_
      ·rw [h6]; replace h6 := zcl h6
       refine zv4 ?_
       refine ⟨_, ?_, ⟨rfl, rfl, rfl, rfl, rfl, rfl, rfl, trivial⟩, rfl⟩
       (try rw [ba_nil0, ← List.length_eq_zero_iff] at h3)
       (try rw [show ((0 : Int).toNat) = 0 from rfl] at h4)
       (try rw [show ((0 : Int).toNat) = 0 from rfl] at h6)
       first | exact (decide_eq_true (jixB_len.2 (by omega))).symm | exact (decide_eq_false (fun x => by have := jixB_len.1 x; omega)).symm | exact decide_eq_decide.2 (by rw [jixB_len]; omega)
      ·rw [h6]; replace h6 := zcl h6
       refine zv4 ?_
       refine ⟨_, ?_, ⟨rfl, rfl, rfl, rfl, rfl, rfl, rfl, trivial⟩, rfl⟩
       (try rw [ba_nil0, ← List.length_eq_zero_iff] at h3)
       (try rw [show ((0 : Int).toNat) = 0 from rfl] at h4)
       (try rw [show ((0 : Int).toNat) = 0 from rfl] at h6)
       first | exact (decide_eq_true (jixB_len.2 (by omega))).symm | exact (decide_eq_false (fun x => by have := jixB_len.1 x; omega)).symm | exact decide_eq_decide.2 (by rw [jixB_len]; omega)
     ·rw [h5]; replace h5 := zcl h5
      refine zg10 ?_
      refine zon ?_
      refine ⟨_, ?_, ⟨rfl, rfl, rfl, rfl, rfl, rfl, rfl, trivial⟩, rfl⟩
      (try rw [ba_nil0, ← List.length_eq_zero_iff] at h3)
      (try rw [show ((0 : Int).toNat) = 0 from rfl] at h4)
      (try rw [show ((0 : Int).toNat) = 0 from rfl] at h6)
      first | exact (decide_eq_true (jixB_len.2 (by omega))).symm | exact (decide_eq_false (fun x => by have := jixB_len.1 x; omega)).symm | exact decide_eq_decide.2 (by rw [jixB_len]; omega)
  ·skip
   subst hj
   refine AWp_cond rfl (fun h7 => ?_) (fun h7 => ?_)
   ·(try rw [h7]); replace h7 := zcl h7
    refine zw2 ?_
    refine zrt ?_
    obtain ⟨q1, q2⟩ := jix_bad (n := n) hj0 (by simpa using h7)
    rw [q1, q2]
    exact ResQ_20 rfl rfl hcl (by simp [AV.lt, AV.ltL]) (Ret_of rfl)
   ·(try rw [h7]); replace h7 := zcl h7
    have hb : ¬ jixB nm := by simpa using h7
    obtain ⟨hd, hl0, hl18⟩ := jixB_aD hb
    have hv0 := valL_bd hd
    refine AWp_skip ?_
    refine zw1 ?_
    refine AWp_seq ?_
    refine zw1 ?_
    refine AWp_block ?_
    -- loop 0 LIVE 0:param 1:param 2:param 6:assign 7:assign 8:assign 9:assign
    refine AWp_loop (ι := Nat) (fun i => i ≤ nm.length) (fun i => ⟨[], [(0, .str (ba nm)), (1, .int .i64 (n : Int)), (2, .bool e), (6, .int .i64 0), (7, .bool false), (8, .int .i64 (valL 0 (nm.take i))), (9, .int .i64 (i : Int))]⟩) (fun i => σ) (fun i => nm.length - i) (0) (Nat.zero_le _) ?_ rfl (fun i hi => ?_)
    ·repeat' first | rfl | trivial | constructor
    refine AWp_seq ?_
    refine zw4 ?_
    refine AWp_cond rfl (fun h8 => ?_) (fun h8 => ?_)
    ·(try rw [h8]); replace h8 := zcl h8
     obtain ⟨c, hc⟩ : ∃ c, nm[i]? = some c := ⟨_, List.getElem?_eq_getElem (show i < nm.length by omega)⟩
     have hb1 := valL_take hd hl18 (show i < nm.length by omega)
     have hc256 := c.toNat_lt
     have hbc : bat (ba nm) i = c := by rw [bat_ba, List.getD_eq_getElem?_getD, hc]; rfl
     have hbt : (bat (ba nm) (i : Int).toNat).toNat = c.toNat := by rw [Int.toNat_natCast, hbc]
     refine AWp_skip ?_
     refine AWp_seq ?_
     refine AWp_block ?_
     refine AWp_regL ?_
     refine zv9 ?_
     refine AWp_regL ?_
     refine zv3 ?_
     refine ⟨i + 1, σ.length, by omega, by omega, Nat.le_refl _, ⟨rfl, rfl, rfl, rfl, rfl, rfl, ?_, rfl, trivial⟩, hcl, by simp [ltE, AV.lt], List.take_length⟩
     have hst := valL_step hc
     rw [← hbt] at hst
     rw [hst]; rfl
    ·(try rw [h8]); replace h8 := zcl h8
     have hie : i = nm.length := by omega
     subst hie
     rw [List.take_length]
     refine AWp_exit ?_
     refine AWp_seq ?_
     refine zu4 ?_
     refine zsp 57 rfl (fun h9 => ?_) fun h9 => ?_
     ·rw [h9]; replace h9 := zcl h9
      refine zv7 ?_
      refine AWp_condT rfl ?_
      refine zw3 ?_
      refine zrt ?_
      obtain ⟨q1, q2⟩ := jix_val hj0 hb hv0.1 (.inl h9)
      rw [q1, q2]
      exact ResQ_20 rfl rfl hcl (by simp [AV.lt, AV.ltL]) (Ret_of rfl)
     ·rw [h9]; replace h9 := zcl h9
      refine zg4 ?_
      refine zsp 61 rfl (fun h10 => ?_) fun h10 => ?_
      ·rw [h10]; replace h10 := zcl h10
       refine zv3 ?_
       refine AWp_cond rfl (fun h11 => ?_) (fun h11 => ?_)
       ·(try rw [h11]); replace h11 := zcl h11
        refine zw3 ?_
        refine zrt ?_
        subst h11
        obtain ⟨q1, q2⟩ := jix_val hj0 hb hv0.1 (.inr ⟨h10, rfl⟩)
        rw [q1, q2]
        exact ResQ_20 rfl rfl hcl (by simp [AV.lt, AV.ltL]) (Ret_of rfl)
       ·(try rw [h11]); replace h11 := zcl h11
        refine AWp_skip ?_
        refine zw2 ?_
        refine zrt ?_
        have he : e = false := by simpa using h11
        subst he
        obtain ⟨q1, q2⟩ := jix_big (n := n) hj0 hb (fun x => x.elim (by omega) (fun y => by cases y.2))
        rw [q1, q2]
        exact ResQ_20 rfl rfl hcl (by simp [AV.lt, AV.ltL]) (Ret_of rfl)
      ·rw [h10]; replace h10 := zcl h10
       refine zv3 ?_
       refine AWp_condF rfl ?_
       refine AWp_skip ?_
       refine zw2 ?_
       refine zrt ?_
       obtain ⟨q1, q2⟩ := jix_big hj0 hb (fun x => x.elim (by omega) (fun y => h10 y.1))
       rw [q1, q2]
       exact ResQ_20 rfl rfl hcl (by simp [AV.lt, AV.ltL]) (Ret_of rfl)
end Lg
namespace Lg
open Go
def jeK (op : Int) (nm : BL) (last : Bool) (v : JV) : Int := jixN nm v.l.length (decide (op = 1) && last)
def jeO (op : Int) (nm : BL) (last : Bool) (v : JV) : Bool := jixO nm v.l.length (decide (op = 1) && last)
theorem jeK_nat {op : Int} {nm : BL} {last : Bool} {v : JV} : ∃ k : Nat, jeK op nm last v = k ∧ (jeO op nm last v = true → k ≤ v.l.length ∧ (last = false → k < v.l.length)) := by
  unfold jeK jeO jixN jixO
  cases h : jidx nm v.l.length (decide (op = 1) && last) with
  | none => exact ⟨0, rfl, fun x => by cases x⟩
  | some k =>
    have h1 := jidx_le h
    exact ⟨k, rfl, fun _ => ⟨h1.1, fun hl => h1.2 (by simp [hl])⟩⟩
variable {op : Int} {x v : JV} {nm : BL} {r : List BL}
theorem jed_nil2 : jed 2 x [] v = (vz, 7) := rfl
theorem jed_nil (h : ¬ op = 2) : jed op x [] v = (x, 0) := by rw [jed, if_neg h]
variable {last : Bool} {k : Nat}
theorem jedA_no (hl : r.isEmpty = last) (h4 : v.kind = 4) (ho : jeO op nm last v = false) : jed op x (nm :: r) v = (vz, 6) := by
  subst hl
  rw [jed, if_pos h4, if_neg]; show ¬ jeO op nm r.isEmpty v = true; simp [ho]
theorem jedA_bad (hl : r.isEmpty = last) (h4 : v.kind = 4) (hk : jeK op nm last v = k) (ho : jeO op nm last v = true) (hr : last = false) {a : JV} (ha : v.l[k]? = some a) (hb : ¬ (jed op x r a).2 = 0) : jed op x (nm :: r) v = (vz, (jed op x r a).2) := by
  have e1 : (jixN nm v.l.length (decide (op = 1) && r.isEmpty)).toNat = k := by subst hl; show (jeK op nm r.isEmpty v).toNat = k; rw [hk]; rfl
  have e2 : v.l.getD k vz = a := by rw [List.getD_eq_getElem?_getD, ha]; rfl
  rw [jed, if_pos h4, if_pos (by subst hl; exact ho), e1, e2, if_pos ⟨by rw [hl, hr], hb⟩]
theorem jedA_ok (hl : r.isEmpty = last) (h4 : v.kind = 4) (hk : jeK op nm last v = k) (ho : jeO op nm last v = true) (hb : last = false → (jed op x r (v.l.getD k vz)).2 = 0) :
    jed op x (nm :: r) v = (.mk v.kind v.b v.n v.s (eA last op k x (jed op x r (v.l.getD k vz)).1 v.l (v.l.length + 1)) [], 0) := by
  have e1 : (jixN nm v.l.length (decide (op = 1) && r.isEmpty)).toNat = k := by subst hl; show (jeK op nm r.isEmpty v).toNat = k; rw [hk]; rfl
  rw [jed, if_pos h4, if_pos (by subst hl; exact ho), e1, if_neg, hl]
  rintro ⟨h1, h2⟩; exact h2 (hb (by rw [← hl]; exact h1))
theorem jedM_no (hl : r.isEmpty = last) (h4 : ¬ v.kind = 4) (h : ¬ v.kind = 5 ∨ (jfB v (ba nm) = false ∧ (¬ op = 1 ∨ last = false))) : jed op x (nm :: r) v = (vz, 6) := by
  subst hl; rw [jed, if_neg h4, if_pos h]
theorem eBad_t {key : ByteArray} {g : JV → Int} {m : List (ByteArray × JV)} : eBad true key g m = 0 := by rfl
theorem eBad_at {key : ByteArray} {g : JV → Int} {m : List (ByteArray × JV)} {i : Nat} {q : ByteArray × JV} (hq : m[i]? = some q) (h : ∀ p ∈ m.take i, p.1 = key → g p.2 = 0) (hk : q.1 = key) (hb : ¬ g q.2 = 0) : eBad false key g m = g q.2 := by
  have hi := (List.getElem?_eq_some_iff.1 hq).1
  have e : m = m.take i ++ (q :: m.drop (i + 1)) := by
    have h0 : m.drop i = q :: m.drop (i + 1) := by
      rw [List.drop_eq_getElem_cons hi]; congr 1
      have := List.getElem?_eq_getElem hi
      rw [hq] at this; exact (Option.some.inj this).symm
    rw [← h0, List.take_append_drop]
  have hn : (m.take i).find? (fun q => decide (q.1 = key) && decide (g q.2 ≠ 0)) = none := by
    rw [List.find?_eq_none]; intro p hp; simp only [Bool.and_eq_true, decide_eq_true_eq, not_and]
    intro h1 h2; exact h2 (h p hp h1)
  unfold eBad
  rw [if_neg (by simp), e, List.find?_append, hn, Option.none_or, List.find?_cons_of_pos (by simp [hk, hb])]
  rfl
theorem eBad_none {key : ByteArray} {g : JV → Int} {m : List (ByteArray × JV)} (h : ∀ p ∈ m, p.1 = key → g p.2 = 0) (last : Bool) : eBad last key g m = 0 := by
  unfold eBad
  split
  · rfl
  · have hn : m.find? (fun q => decide (q.1 = key) && decide (g q.2 ≠ 0)) = none := by
      rw [List.find?_eq_none]; intro p hp; simp only [Bool.and_eq_true, decide_eq_true_eq, not_and]
      intro h1 h2; exact h2 (h p hp h1)
    rw [hn]; rfl
theorem jedM_bad (hl : r.isEmpty = last) (h4 : ¬ v.kind = 4) (h5 : v.kind = 5) (h : jfB v (ba nm) = true ∨ (op = 1 ∧ last = true)) {b : Int} (hb : eBad last (ba nm) (fun y => (jed op x r y).2) v.m = b) (hb0 : ¬ b = 0) : jed op x (nm :: r) v = (vz, b) := by
  subst hl; subst hb
  rw [jed, if_neg h4, if_neg (by simp only [h5, ne_eq, not_true, false_or]; rintro ⟨h1, h2⟩; rcases h with h | ⟨h, h'⟩; · rw [h1] at h; cases h
                                 · rcases h2 with h2 | h2; · exact h2 h
                                   · rw [h'] at h2; cases h2), if_pos hb0]
theorem jedM_ok (hl : r.isEmpty = last) (h4 : ¬ v.kind = 4) (h5 : v.kind = 5) (h : jfB v (ba nm) = true ∨ (op = 1 ∧ last = true)) (hb : eBad last (ba nm) (fun y => (jed op x r y).2) v.m = 0) :
    jed op x (nm :: r) v = (.mk v.kind v.b v.n v.s [] (eM last op (ba nm) x (fun y => (jed op x r y).1) v.m false), 0) := by
  subst hl
  rw [jed, if_neg h4, if_neg (by simp only [h5, ne_eq, not_true, false_or]; rintro ⟨h1, h2⟩; rcases h with h | ⟨h, h'⟩; · rw [h1] at h; cases h
                                 · rcases h2 with h2 | h2; · exact h2 h
                                   · rw [h'] at h2; cases h2), if_neg (by simp [hb])]
section
variable {y a : JV} {l : List JV} {i : Nat}
theorem eOld_end (h : l[i]? = none) : eOld last op k y l i = [] := by unfold eOld; rw [h]
theorem eOld_ne (h : l[i]? = some a) (hk : ¬ i = k) : eOld last op k y l i = [a] := by unfold eOld; rw [h]; simp only; rw [if_neg hk]
theorem eOld_ed (h : l[i]? = some a) (hk : i = k) (hl : last = false) : eOld last op k y l i = [y] := by unfold eOld; rw [h]; simp only; rw [if_pos hk, if_neg (by simp [hl])]
theorem eOld_keep (h : l[i]? = some a) (hl : last = true) (ho : op = 1) : eOld last op k y l i = [a] := by unfold eOld; rw [h]; simp only; split <;> simp [hl, ho]
theorem eOld_del (hk : i = k) (hl : last = true) (ho : ¬ op = 1) : eOld last op k y l i = [] := by unfold eOld; split <;> simp [hk, hl, ho]
end
theorem eA_bd {y : JV} {l : List JV} (i : Nat) : (eA last op k x y l i).length ≤ i + 1 := by have := eA_len last op k x y l i; split at this <;> omega
theorem eIns_bd {i : Nat} : (eIns last op k x i).length ≤ 1 := by unfold eIns; split <;> simp
theorem srow_tail (nm : BL) (r : List BL) : ((srow (nm :: r)).drop 1).take ((srow (nm :: r)).length - 1) = srow r := by
  simp only [srow, List.map_cons, List.drop_succ_cons, List.drop_zero, List.length_cons, Nat.add_sub_cancel]; rw [List.take_of_length_le (Nat.le_refl _)]
end Lg
namespace Lg
theorem len_snoc {α : Type} (l : List α) (a : α) : (l ++ [a]).length = l.length + 1 := by simp
end Lg
set_option maxRecDepth 20000
set_option maxHeartbeats 4000000
namespace Lg
open Go Go.Proofs Go.RowKit
variable [GLay] 
theorem rptr_c (s : BL) (σ : List AO) (hs : s.length ≤ 1000000) : ACalls Tryd.prog 93 [.str (ba s)] σ (Ret (.tup [.sl false 1 (srow (pN s)), .int .i64 (pEi s)]) σ) := by
 refine ACalls_body Tryd.func93 rfl Tryd.ntmps93 (res2 Tryd.results93) (Nat.le_of_ble_eq_true rfl) (fun hcl hal => ?_)
 have hbz : (ba s).size = s.length := ba_size s
 refine zw2 ?_
 refine AWp_seq ?_
 refine zw2 ?_
 refine AWp_cond rfl (fun h1 => ?_) (fun h1 => ?_)
 ·(try rw [h1]); replace h1 := zcl h1
  have hs0 : s = [] := ba_nil.1 h1
  refine zw2 ?_
  refine AWp_slotLe 2 rfl (AVle.nils false 1) ?_ (by decide)
  refine zrt ?_
  subst hs0
  exact ResQ_20 rfl rfl hcl (by simp [AV.lt, AV.ltL, AV.ltLL]) (Ret_of rfl)
 ·(try rw [h1]); replace h1 := zcl h1
  have hs0 : ¬ s = [] := fun e => h1 (ba_nil.2 e)
  have hsl : 0 < s.length := List.length_pos_iff.2 hs0
  refine AWp_skip ?_
  refine AWp_seq ?_
  refine zw3 ?_
  refine AWp_cond rfl (fun h2 => ?_) (fun h2 => ?_)
  ·(try rw [h2]); replace h2 := zcl h2
   have h47 : ¬ s[0]? = some 47 := fun e => h2 ((g47 hsl).1 e)
   refine zw2 ?_
   refine AWp_slotLe 2 rfl (AVle.nils false 1) ?_ (by decide)
   refine zrt ?_
   have hE : pE s = some 0 := by unfold pE; rw [if_neg hs0, if_pos h47]
   rw [pEi_s hE, pN_bad hs0 hE]
   exact ResQ_20 rfl rfl hcl (by simp [AV.lt, AV.ltL, AV.ltLL]) (Ret_of rfl)
  ·(try rw [h2]); replace h2 := zcl h2
   have h47 : s[0]? = some 47 := (g47 hsl).2 h2
   refine AWp_skip ?_
   refine zw1 ?_
   refine AWp_seq ?_
   refine AWp_seq ?_
   refine AWp_ghostT 4 1 rfl ?_ (by decide)
   refine AWp_regL ?_
   refine zv1 ?_
   refine AWp_block ?_
   -- loop 0 LIVE 0:param 2:assign 3:assign 4:assign 5:assign
   refine AWp_loop (ι := Nat × List BL × Nat) (fun z => PAt s z.1 z.2.1) (fun z => ⟨[], [(0, .str (ba s)), (4, .arr (σ.length + 0) z.2.2 1 0 z.2.1.length), (5, .int .i64 (z.1 : Int))]⟩) (fun z => σ ++ [.arr 1 z.2.2 (srow z.2.1).flatten]) (fun z => s.length - z.1) ((0, [], 0)) (PAt.zero s) ?_ rfl (fun z hz => ?_)
   ·exact ⟨rfl, rfl, rfl, rfl, trivial⟩
   obtain ⟨i, L, g⟩ := z
   simp only at hz ⊢
   have hzl := hz.le
   have hzn := hz.len
   have z1 : ∀ c : UInt8, (ByteArray.mk #[c]).size = 1 := fun c => rfl
   refine AWp_seq ?_
   refine zw4 ?_
   refine AWp_cond rfl (fun h3 => ?_) (fun h3 => ?_)
   ·(try rw [h3]); replace h3 := zcl h3
    refine AWp_skip ?_
    refine AWp_seq ?_
    refine AWp_block ?_
    refine zw4 ?_
    refine AWp_seq ?_
    refine zw2 ?_
    refine AWp_cond rfl (fun h4 => ?_) (fun h4 => ?_)
    ·(try rw [h4]); replace h4 := zcl h4
     have hz47 := (g47 (show i < s.length by omega)).2 h4
     refine zu1 ?_
     refine zt rfl (op_buildSlice [[_]] rfl Tryd.underlying64 Tryd.sizeOf9 Tryd.zeroValue9 rfl (by decide) (by decide) rfl rfl rfl rfl rfl) ?_
     refine zt rfl (op_appendArrT rfl 0 (sz := 1) (m := 1) (len := L.length) (cs := [.str ⟨#[]⟩]) rfl (.inr ⟨_, rfl⟩) Tryd.underlying64 Tryd.underlying64 Tryd.type9 rfl rfl rfl (by decide) rfl rfl (by rw [sflat_len, Nat.mul_one]) rfl rfl rfl (by show (L.length + 1) * 16 ≤ _; omega) (by omega) rfl) ?_
     refine zv1 ?_
     refine AWp_exit ?_
     refine AWp_regL ?_
     refine zv3 ?_
     have hp9 := hz.slash hz47
     refine ⟨(i + 1, L ++ [[]], g + 1), σ.length + 1, hp9, by have := hp9.le; simp only; omega, by simp, ⟨rfl, rfl, by rw [List.length_append]; rfl, rfl, trivial⟩, closed_own 1 hcl ?_, ?_, ?_⟩
     ·simp [ownLt, AO.cells, ltL_append, AV.ltL, AV.lt, flat_lt]
     ·simp [ltE, AV.lt]
     ·refine (take_own 1).trans ?_
      rw [srow_snoc]; rfl
    ·(try rw [h4]); replace h4 := zcl h4
     have hn47 : ¬ s[i]? = some 47 := fun e => h4 ((g47 (show i < s.length by omega)).1 e)
     have hi1 : 1 ≤ i := by rcases Nat.eq_zero_or_pos i with e | e; subst e; exact absurd h47 hn47; exact e
     obtain ⟨ps, q, hLq⟩ := hz.last hi1
     have hqs := hz.el q (by rw [hLq]; simp)
     have hLl := hz.len
     subst hLq
     have hLp : 1 ≤ (ps ++ [q]).length := by rw [List.length_append]; simp
     have hqz : (ba q).size = q.length := ba_size q
     have hlst := srow_last ps q
     refine AWp_skip ?_
     refine AWp_seq ?_
     refine zw2 ?_
     refine AWp_cond rfl (fun h5 => ?_) (fun h5 => ?_)
     ·(try rw [h5]); replace h5 := zcl h5
      have hz126 := (g126 (show i < s.length by omega)).2 h5
      refine AWp_seq ?_
      refine zw5 ?_
      refine AWp_cond rfl (fun h6 => ?_) (fun h6 => ?_)
      ·(try rw [h6]); replace h6 := zcl h6
       refine zw3 ?_
       refine AWp_slotLe 2 rfl (AVle.nils false 1) ?_ (by decide)
       refine zrt ?_
       have ht : tbad s i = true := tbad_t (show i < s.length by omega) h5 (.inl (by omega))
       have hE : pE s = some i := pE_at hs0 h47 (show i < s.length by omega) ht hz.bad
       rw [pEi_s hE, pN_bad hs0 hE]
       exact ResQ_2 rfl rfl hcl (by simp [AV.lt, AV.ltL, AV.ltLL]) (Ret_of rfl)
      ·(try rw [h6]); replace h6 := zcl h6
       refine AWp_skip ?_
       refine zw3 ?_
       refine AWp_seq ?_
       refine zu5 ?_
       refine zsp 40 rfl (fun h7 => ?_) fun h7 => ?_
       ·rw [h7]; replace h7 := zcl h7
        refine zv5 ?_
        refine AWp_cond rfl (fun h8 => ?_) (fun h8 => ?_)
        ·(try rw [h8]); replace h8 := zcl h8
         refine zw4 ?_
         refine AWp_slotLe 2 rfl (AVle.nils false 1) ?_ (by decide)
         refine zrt ?_
         have ht : tbad s i = true := tbad_t (show i < s.length by omega) h5 (.inr ⟨h7, h8⟩)
         have hE : pE s = some i := pE_at hs0 h47 (show i < s.length by omega) ht hz.bad
         rw [pEi_s hE, pN_bad hs0 hE]
         exact ResQ_2 rfl rfl hcl (by simp [AV.lt, AV.ltL, AV.ltLL]) (Ret_of (by rw [show (i : Int) + 1 - 1 = i by omega]; rfl))
        ·(try rw [h8]); replace h8 := zcl h8
         refine AWp_skip ?_
         refine zw1 ?_
         refine zw4 ?_
         refine AWp_cond rfl (fun h9 => ?_) (fun h9 => ?_)
         ·(try rw [h9]); replace h9 := zcl h9
          have hi9 := hz126
          refine AWp_regL ?_
          refine zv1 ?_
          refine AWp_drawL #[0, 0, 2, 6, 0, 0, 32, 96, 240, 496, 0, 1024, 3072, 8176, 16383, 32767] Tryd.mixed (by decide +kernel) (by decide +kernel) ?_
          refine zd2 ?_
          refine yP rfl rfl (op_lenS rfl rfl Tryd.underlying64 rfl rfl ⟨1, _, get_own 0⟩) (trivial) ?_
          refine zd3 ?_
          refine yP rfl rfl (op_lenS rfl rfl Tryd.underlying64 rfl rfl ⟨1, _, get_own 0⟩) (trivial) ?_
          refine zd1 ?_
          refine yP rfl rfl (op_indexAddrAO (j := 0) rfl Tryd.underlying64 Tryd.sizeOf9 rfl rfl (by omega) (by omega) rfl) (trivial) ?_
          refine yP rfl rfl (op_load1 rfl Tryd.isAgg9 (ldv_el (j := 0) (i := (ps ++ [q]).length - 1) rfl hlst (by omega))) (trivial) ?_
          refine zd1 ?_
          refine yA rfl rfl (fun _ => op_buildSlice [[_]] rfl Tryd.underlying114 Tryd.sizeOf5 Tryd.zeroValue5 rfl (by decide) (by decide) rfl rfl rfl rfl rfl) ?_
          refine yA rfl rfl (fun _ => (by first | exact op_bytesStr (b := ⟨#[126]⟩) (m := 1) rfl Tryd.underlying114 Tryd.underlying5 Tryd.underlying9 rfl rfl rfl | exact op_bytesStr (b := ⟨#[47]⟩) (m := 1) rfl Tryd.underlying114 Tryd.underlying5 Tryd.underlying9 rfl rfl rfl | exact op_bytesStr (b := ⟨#[bat (ba s) i]⟩) (m := 1) rfl Tryd.underlying114 Tryd.underlying5 Tryd.underlying9 rfl rfl rfl)) ?_
          refine yA rfl rfl (fun _ => op_cat rfl rfl rfl (by rw [hqz]; show q.length + 1 ≤ _; omega)) ?_
          refine yP rfl rfl (op_indexAddrAO (j := 0) rfl Tryd.underlying64 Tryd.sizeOf9 rfl rfl (by omega) (by omega) rfl) (trivial) ?_
          refine yEN rfl rfl rfl (op_storeEl (j := 0) (i := (ps ++ [q]).length - 1) rfl Tryd.sizeOf9 rfl rfl (by omega) rfl (by rw [sflat_len]; omega)) (⟨.inl rfl, ⟨.inl rfl, ⟨.inl rfl, ⟨.inl rfl, ⟨.inl rfl, trivial⟩⟩⟩⟩⟩) (trivial) ?_
          refine RP.nil rfl ?_
          refine AWp_regL ?_
          refine zv3 ?_
          have hz49 := (g49 (show i + 1 < s.length by omega)).2 h8
          have hp9 := hz.esc hi1 rfl hz126 hz49 (.inr rfl)
          refine ⟨(i + 1 + 1, ps ++ [q ++ [47]], g), σ.length + 1, hp9, by have := hp9.le; simp only; omega, by simp, ⟨rfl, rfl, by rw [List.length_append, List.length_append]; rfl, rfl, trivial⟩, closed_own 1 hcl ?_, ?_, ?_⟩
          ·simp [ownLt, AO.cells]; rw [AV.ltL_iff]; intro a ha; rcases List.mem_or_eq_of_mem_set ha with h | rfl; exact (AV.ltL_iff _ _).1 (flat_lt (srow_lt _ _)) a h; trivial
          ·simp [ltE, AV.lt]
          ·refine (take_own 1).trans ?_
           rw [← srow_setl ps q (q ++ [47]), ← ba_app]; rfl
         ·(try rw [h9]); replace h9 := zcl h9
          exact absurd h8 h9
       ·rw [h7]; replace h7 := zcl h7
        refine zv5 ?_
        refine AWp_condF rfl ?_
        refine AWp_skip ?_
        refine zw1 ?_
        refine zw4 ?_
        refine AWp_cond rfl (fun h10 => ?_) (fun h10 => ?_)
        ·(try rw [h10]); replace h10 := zcl h10
         omega
        ·(try rw [h10]); replace h10 := zcl h10
         refine AWp_skip ?_
         refine AWp_drawL #[0, 0, 2, 6, 0, 0, 32, 96, 240, 496, 0, 1024, 3072, 8176, 16383, 32767] Tryd.mixed (by decide +kernel) (by decide +kernel) ?_
         refine zd2 ?_
         refine yP rfl rfl (op_lenS rfl rfl Tryd.underlying64 rfl rfl ⟨1, _, get_own 0⟩) (trivial) ?_
         refine zd3 ?_
         refine yP rfl rfl (op_lenS rfl rfl Tryd.underlying64 rfl rfl ⟨1, _, get_own 0⟩) (trivial) ?_
         refine zd1 ?_
         refine yP rfl rfl (op_indexAddrAO (j := 0) rfl Tryd.underlying64 Tryd.sizeOf9 rfl rfl (by omega) (by omega) rfl) (trivial) ?_
         refine yP rfl rfl (op_load1 rfl Tryd.isAgg9 (ldv_el (j := 0) (i := (ps ++ [q]).length - 1) rfl hlst (by omega))) (trivial) ?_
         refine zd1 ?_
         refine yA rfl rfl (fun _ => op_buildSlice [[_]] rfl Tryd.underlying114 Tryd.sizeOf5 Tryd.zeroValue5 rfl (by decide) (by decide) rfl rfl rfl rfl rfl) ?_
         refine yA rfl rfl (fun _ => (by first | exact op_bytesStr (b := ⟨#[126]⟩) (m := 1) rfl Tryd.underlying114 Tryd.underlying5 Tryd.underlying9 rfl rfl rfl | exact op_bytesStr (b := ⟨#[47]⟩) (m := 1) rfl Tryd.underlying114 Tryd.underlying5 Tryd.underlying9 rfl rfl rfl | exact op_bytesStr (b := ⟨#[bat (ba s) i]⟩) (m := 1) rfl Tryd.underlying114 Tryd.underlying5 Tryd.underlying9 rfl rfl rfl)) ?_
         refine yA rfl rfl (fun _ => op_cat rfl rfl rfl (by rw [hqz]; show q.length + 1 ≤ _; omega)) ?_
         refine yP rfl rfl (op_indexAddrAO (j := 0) rfl Tryd.underlying64 Tryd.sizeOf9 rfl rfl (by omega) (by omega) rfl) (trivial) ?_
         refine yEN rfl rfl rfl (op_storeEl (j := 0) (i := (ps ++ [q]).length - 1) rfl Tryd.sizeOf9 rfl rfl (by omega) rfl (by rw [sflat_len]; omega)) (⟨.inl rfl, ⟨.inl rfl, ⟨.inl rfl, ⟨.inl rfl, ⟨.inl rfl, trivial⟩⟩⟩⟩⟩) (trivial) ?_
         refine RP.nil rfl ?_
         refine AWp_regL ?_
         refine zv3 ?_
         have hz48 := (g48 (show i + 1 < s.length by omega)).2 h7
         have hp9 := hz.esc hi1 rfl hz126 hz48 (.inl rfl)
         refine ⟨(i + 1 + 1, ps ++ [q ++ [126]], g), σ.length + 1, hp9, by have := hp9.le; simp only; omega, by simp, ⟨rfl, rfl, by rw [List.length_append, List.length_append]; rfl, rfl, trivial⟩, closed_own 1 hcl ?_, ?_, ?_⟩
         ·simp [ownLt, AO.cells]; rw [AV.ltL_iff]; intro a ha; rcases List.mem_or_eq_of_mem_set ha with h | rfl; exact (AV.ltL_iff _ _).1 (flat_lt (srow_lt _ _)) a h; trivial
         ·simp [ltE, AV.lt]
         ·refine (take_own 1).trans ?_
          rw [← srow_setl ps q (q ++ [126]), ← ba_app]; rfl
     ·(try rw [h5]); replace h5 := zcl h5
      have hn126 : ¬ s[i]? = some 126 := fun e => h5 ((g126 (show i < s.length by omega)).1 e)
      refine AWp_skip ?_
      refine AWp_drawL #[0, 0, 2, 6, 0, 0, 32, 96, 240, 496, 0, 1024, 3072, 8176, 16383, 32767] Tryd.mixed (by decide +kernel) (by decide +kernel) ?_
      refine zd2 ?_
      refine yP rfl rfl (op_lenS rfl rfl Tryd.underlying64 rfl rfl ⟨1, _, get_own 0⟩) (trivial) ?_
      refine zd3 ?_
      refine yP rfl rfl (op_lenS rfl rfl Tryd.underlying64 rfl rfl ⟨1, _, get_own 0⟩) (trivial) ?_
      refine zd1 ?_
      refine yP rfl rfl (op_indexAddrAO (j := 0) rfl Tryd.underlying64 Tryd.sizeOf9 rfl rfl (by omega) (by omega) rfl) (trivial) ?_
      refine yP rfl rfl (op_load1 rfl Tryd.isAgg9 (ldv_el (j := 0) (i := (ps ++ [q]).length - 1) rfl hlst (by omega))) (trivial) ?_
      refine zd1 ?_
      refine yA rfl rfl (fun _ => op_buildSlice [[_]] rfl Tryd.underlying114 Tryd.sizeOf5 Tryd.zeroValue5 rfl (by decide) (by decide) rfl rfl rfl rfl rfl) ?_
      refine yA rfl rfl (fun _ => (by first | exact op_bytesStr (b := ⟨#[126]⟩) (m := 1) rfl Tryd.underlying114 Tryd.underlying5 Tryd.underlying9 rfl rfl rfl | exact op_bytesStr (b := ⟨#[47]⟩) (m := 1) rfl Tryd.underlying114 Tryd.underlying5 Tryd.underlying9 rfl rfl rfl | exact op_bytesStr (b := ⟨#[bat (ba s) i]⟩) (m := 1) rfl Tryd.underlying114 Tryd.underlying5 Tryd.underlying9 rfl rfl rfl)) ?_
      refine yA rfl rfl (fun _ => op_cat rfl rfl rfl (by rw [hqz]; show q.length + 1 ≤ _; omega)) ?_
      refine yP rfl rfl (op_indexAddrAO (j := 0) rfl Tryd.underlying64 Tryd.sizeOf9 rfl rfl (by omega) (by omega) rfl) (trivial) ?_
      refine yEN rfl rfl rfl (op_storeEl (j := 0) (i := (ps ++ [q]).length - 1) rfl Tryd.sizeOf9 rfl rfl (by omega) rfl (by rw [sflat_len]; omega)) (⟨.inl rfl, ⟨.inl rfl, ⟨.inl rfl, ⟨.inl rfl, ⟨.inl rfl, trivial⟩⟩⟩⟩⟩) (trivial) ?_
      refine RP.nil rfl ?_
      refine AWp_regL ?_
      refine zv3 ?_
      have hzb : s[i]? = some (bat (ba s) i) := (get_is (show i < s.length by omega)).2 rfl
      have hp9 := hz.byte hi1 rfl hzb (fun e => hn47 (hzb.trans (congrArg some e))) (fun e => hn126 (hzb.trans (congrArg some e)))
      refine ⟨(i + 1, ps ++ [q ++ [bat (ba s) i]], g), σ.length + 1, hp9, by have := hp9.le; simp only; omega, by simp, ⟨rfl, rfl, by rw [List.length_append, List.length_append]; rfl, rfl, trivial⟩, closed_own 1 hcl ?_, ?_, ?_⟩
      ·simp [ownLt, AO.cells]; rw [AV.ltL_iff]; intro a ha; rcases List.mem_or_eq_of_mem_set ha with h | rfl; exact (AV.ltL_iff _ _).1 (flat_lt (srow_lt _ _)) a h; trivial
      ·simp [ltE, AV.lt]
      ·refine (take_own 1).trans ?_
       rw [← srow_setl ps q (q ++ [bat (ba s) i]), ← ba_app]; rfl
   ·(try rw [h3]); replace h3 := zcl h3
    refine AWp_exit ?_
    refine AWp_seq ?_
    have hie : i = s.length := by omega
    subst hie
    obtain ⟨hE, hN⟩ := hz.done hs0 h47
    refine AWp_freezeAO 4 0 g 1 L.length (srow L) rfl rfl (srow_el _) (srow_len _) (by decide) ?_ (by decide)
    refine AWp_regL ?_
    refine zv3 ?_
    refine zrt ?_
    rw [hN, pEi_n hE]
    exact ResQ_2 rfl rfl hcl (by simp [AV.lt, AV.ltL]) (Ret_of rfl)
end Lg
set_option maxRecDepth 20000
set_option maxHeartbeats 4000000
namespace Go.Proofs
open Go.Shelf
def Tryd.lays155_ren : Go.Shelf.Ren := ⟨fun | 155 => 61 | 154 => 87 | 138 => 106 | 165 => 107 | 143 => 108 | 166 => 109 | 197 => 110 | 169 => 111 | 195 => 123 | 218 => 124 | 240 => 125 | 241 => 126 | 219 => 127 | 260 => 128 | 276 => 131 | 277 => 132 | 217 => 133 | 225 => 134 | 224 => 135 | 267 => 136 | 266 => 138 | 314 => 139 | n => n, fun | 9 => 9 | 3 => 3 | 4 => 4 | 72 => 162 | 0 => 0 | 76 => 164 | 105 => 166 | 21 => 21 | 5 => 5 | 70 => 160 | 20 => 20 | 37 => 114 | 75 => 35 | 127 => 179 | 164 => 183 | 46 => 135 | 119 => 187 | 139 => 190 | 138 => 189 | 146 => 192 | 51 => 157 | 80 => 125 | n => n, fun | 1 => 0 | 3 => 1 | 4 => 2 | n => n⟩
theorem Tryd.lays155 : Go.Proofs.Lays.n155 Tryd.prog Tryd.lays155_ren := {
  mixed := by kernel_rfl, f138 := Tryd.func106.trans (congrArg some (by kernel_rfl)), f143 := Tryd.func108.trans (congrArg some (by kernel_rfl)), f154 := Tryd.func87.trans (congrArg some (by kernel_rfl)), f155 := Tryd.func61.trans (congrArg some (by kernel_rfl)), f165 := Tryd.func107.trans (congrArg some (by kernel_rfl)), f166 := Tryd.func109.trans (congrArg some (by kernel_rfl)), f169 := Tryd.func111.trans (congrArg some (by kernel_rfl)), f195 := Tryd.func123.trans (congrArg some (by kernel_rfl)), f197 := Tryd.func110.trans (congrArg some (by kernel_rfl)), f217 := Tryd.func133.trans (congrArg some (by kernel_rfl)), f218 := Tryd.func124.trans (congrArg some (by kernel_rfl)), f219 := Tryd.func127.trans (congrArg some (by kernel_rfl)), f224 := Tryd.func135.trans (congrArg some (by kernel_rfl)), f225 := Tryd.func134.trans (congrArg some (by kernel_rfl)), f240 := Tryd.func125.trans (congrArg some (by kernel_rfl)), f241 := Tryd.func126.trans (congrArg some (by kernel_rfl)), f260 := Tryd.func128.trans (congrArg some (by kernel_rfl)), f266 := Tryd.func138.trans (congrArg some (by kernel_rfl)), f267 := Tryd.func136.trans (congrArg some (by kernel_rfl)), f276 := Tryd.func131.trans (congrArg some (by kernel_rfl)), f277 := Tryd.func132.trans (congrArg some (by kernel_rfl)), f314 := Tryd.func139.trans (congrArg some (by kernel_rfl)), t0 := Tryd.underlying0, a0 := Tryd.isAgg0, z0 := Tryd.sizeOf0, v0 := Tryd.zeroValue0, t3 := Tryd.underlying3, a3 := Tryd.isAgg3, z3 := Tryd.sizeOf3, v3 := Tryd.zeroValue3, t4 := Tryd.underlying4, a4 := Tryd.isAgg4, z4 := Tryd.sizeOf4, v4 := Tryd.zeroValue4, t5 := Tryd.underlying5, a5 := Tryd.isAgg5, z5 := Tryd.sizeOf5, v5 := Tryd.zeroValue5, t9 := Tryd.underlying9, a9 := Tryd.isAgg9, z9 := Tryd.sizeOf9, v9 := Tryd.zeroValue9, t20 := Tryd.underlying20, a20 := Tryd.isAgg20, z20 := Tryd.sizeOf20, v20 := Tryd.zeroValue20, t21 := Tryd.underlying21, a21 := Tryd.isAgg21, z21 := Tryd.sizeOf21, v21 := Tryd.zeroValue21, t37 := Tryd.underlying114, a37 := Tryd.isAgg114, z37 := Tryd.sizeOf114, v37 := Tryd.zeroValue114, t46 := Tryd.underlying135, a46 := Tryd.isAgg135, z46 := Tryd.sizeOf135, v46 := Tryd.zeroValue135, t51 := Tryd.underlying157, a51 := Tryd.isAgg157, z51 := Tryd.sizeOf157, v51 := Tryd.zeroValue157, t70 := Tryd.underlying160, a70 := Tryd.isAgg160, z70 := Tryd.sizeOf160, v70 := Tryd.zeroValue160, t72 := Tryd.underlying162, a72 := Tryd.isAgg162, z72 := Tryd.sizeOf162, v72 := Tryd.zeroValue162, t75 := Tryd.underlying35, a75 := Tryd.isAgg35, z75 := Tryd.sizeOf35, v75 := Tryd.zeroValue35, t76 := Tryd.underlying164, a76 := Tryd.isAgg164, z76 := Tryd.sizeOf164, v76 := Tryd.zeroValue164, t105 := Tryd.underlying166, a105 := Tryd.isAgg166, z105 := Tryd.sizeOf166, v105 := Tryd.zeroValue166, t119 := Tryd.underlying187, a119 := Tryd.isAgg187, z119 := Tryd.sizeOf187, t127 := Tryd.underlying179, a127 := Tryd.isAgg179, z127 := Tryd.sizeOf179, v127 := Tryd.zeroValue179, t138 := Tryd.underlying189, a138 := Tryd.isAgg189, z138 := Tryd.sizeOf189, v138 := Tryd.zeroValue189, t139 := Tryd.underlying190, a139 := Tryd.isAgg190, z139 := Tryd.sizeOf190, v139 := Tryd.zeroValue190, t146 := Tryd.underlying192, a146 := Tryd.isAgg192, z146 := Tryd.sizeOf192, v146 := Tryd.zeroValue192, t164 := Tryd.underlying183, a164 := Tryd.isAgg183, z164 := Tryd.sizeOf183, v164 := Tryd.zeroValue183, g1 := by kernel_rfl, g3 := by kernel_rfl, g4 := by kernel_rfl }
def Tryd.lays146_ren : Go.Shelf.Ren := ⟨fun | 146 => 116 | 221 => 129 | 268 => 137 | 138 => 106 | 143 => 108 | 195 => 123 | 197 => 110 | 218 => 124 | 219 => 127 | 260 => 128 | 217 => 133 | 225 => 134 | 224 => 135 | 267 => 136 | 266 => 138 | 314 => 139 | n => n, fun | 9 => 9 | 31 => 64 | 3 => 3 | 4 => 4 | 0 => 0 | 105 => 166 | 21 => 21 | 5 => 5 | 46 => 135 | 119 => 187 | 139 => 190 | 138 => 189 | 146 => 192 | 51 => 157 | n => n, fun | 1 => 0 | 3 => 1 | 4 => 2 | n => n⟩
theorem Tryd.lays146 : Go.Proofs.Lays.n146 Tryd.prog Tryd.lays146_ren := {
  mixed := by kernel_rfl, f138 := Tryd.func106.trans (congrArg some (by kernel_rfl)), f143 := Tryd.func108.trans (congrArg some (by kernel_rfl)), f146 := Tryd.func116.trans (congrArg some (by kernel_rfl)), f195 := Tryd.func123.trans (congrArg some (by kernel_rfl)), f197 := Tryd.func110.trans (congrArg some (by kernel_rfl)), f217 := Tryd.func133.trans (congrArg some (by kernel_rfl)), f218 := Tryd.func124.trans (congrArg some (by kernel_rfl)), f219 := Tryd.func127.trans (congrArg some (by kernel_rfl)), f221 := Tryd.func129.trans (congrArg some (by kernel_rfl)), f224 := Tryd.func135.trans (congrArg some (by kernel_rfl)), f225 := Tryd.func134.trans (congrArg some (by kernel_rfl)), f260 := Tryd.func128.trans (congrArg some (by kernel_rfl)), f266 := Tryd.func138.trans (congrArg some (by kernel_rfl)), f267 := Tryd.func136.trans (congrArg some (by kernel_rfl)), f268 := Tryd.func137.trans (congrArg some (by kernel_rfl)), f314 := Tryd.func139.trans (congrArg some (by kernel_rfl)), t0 := Tryd.underlying0, a0 := Tryd.isAgg0, z0 := Tryd.sizeOf0, v0 := Tryd.zeroValue0, t3 := Tryd.underlying3, a3 := Tryd.isAgg3, z3 := Tryd.sizeOf3, v3 := Tryd.zeroValue3, t4 := Tryd.underlying4, a4 := Tryd.isAgg4, z4 := Tryd.sizeOf4, v4 := Tryd.zeroValue4, t5 := Tryd.underlying5, a5 := Tryd.isAgg5, z5 := Tryd.sizeOf5, v5 := Tryd.zeroValue5, t9 := Tryd.underlying9, a9 := Tryd.isAgg9, z9 := Tryd.sizeOf9, v9 := Tryd.zeroValue9, t21 := Tryd.underlying21, a21 := Tryd.isAgg21, z21 := Tryd.sizeOf21, v21 := Tryd.zeroValue21, t31 := Tryd.underlying64, a31 := Tryd.isAgg64, z31 := Tryd.sizeOf64, v31 := Tryd.zeroValue64, t46 := Tryd.underlying135, a46 := Tryd.isAgg135, z46 := Tryd.sizeOf135, v46 := Tryd.zeroValue135, t51 := Tryd.underlying157, a51 := Tryd.isAgg157, z51 := Tryd.sizeOf157, v51 := Tryd.zeroValue157, t105 := Tryd.underlying166, a105 := Tryd.isAgg166, z105 := Tryd.sizeOf166, v105 := Tryd.zeroValue166, t119 := Tryd.underlying187, a119 := Tryd.isAgg187, z119 := Tryd.sizeOf187, t138 := Tryd.underlying189, a138 := Tryd.isAgg189, z138 := Tryd.sizeOf189, v138 := Tryd.zeroValue189, t139 := Tryd.underlying190, a139 := Tryd.isAgg190, z139 := Tryd.sizeOf190, v139 := Tryd.zeroValue190, t146 := Tryd.underlying192, a146 := Tryd.isAgg192, z146 := Tryd.sizeOf192, v146 := Tryd.zeroValue192, g1 := by kernel_rfl, g3 := by kernel_rfl, g4 := by kernel_rfl }
def Tryd.laysM143_ren : Go.Shelf.Ren := ⟨fun | 143 => 108 | 219 => 127 | 217 => 133 | 225 => 134 | 224 => 135 | 267 => 136 | 266 => 138 | 314 => 139 | n => n, fun | 9 => 9 | 3 => 3 | 4 => 4 | 5 => 5 | 46 => 135 | 146 => 192 | 51 => 157 | n => n, fun | 1 => 0 | n => n⟩
theorem Tryd.laysM143 : Go.Proofs.LaysM.n143 Tryd.prog Tryd.laysM143_ren := {
  mixed := by kernel_rfl, f143 := Tryd.func108.trans (congrArg some (by kernel_rfl)), f217 := Tryd.func133.trans (congrArg some (by kernel_rfl)), f219 := Tryd.func127.trans (congrArg some (by kernel_rfl)), f224 := Tryd.func135.trans (congrArg some (by kernel_rfl)), f225 := Tryd.func134.trans (congrArg some (by kernel_rfl)), f266 := Tryd.func138.trans (congrArg some (by kernel_rfl)), f267 := Tryd.func136.trans (congrArg some (by kernel_rfl)), f314 := Tryd.func139.trans (congrArg some (by kernel_rfl)), t3 := Tryd.underlying3, a3 := Tryd.isAgg3, z3 := Tryd.sizeOf3, v3 := Tryd.zeroValue3, t4 := Tryd.underlying4, a4 := Tryd.isAgg4, z4 := Tryd.sizeOf4, v4 := Tryd.zeroValue4, t5 := Tryd.underlying5, a5 := Tryd.isAgg5, z5 := Tryd.sizeOf5, v5 := Tryd.zeroValue5, t9 := Tryd.underlying9, a9 := Tryd.isAgg9, z9 := Tryd.sizeOf9, v9 := Tryd.zeroValue9, t46 := Tryd.underlying135, a46 := Tryd.isAgg135, z46 := Tryd.sizeOf135, v46 := Tryd.zeroValue135, t51 := Tryd.underlying157, a51 := Tryd.isAgg157, z51 := Tryd.sizeOf157, v51 := Tryd.zeroValue157, t146 := Tryd.underlying192, a146 := Tryd.isAgg192, z146 := Tryd.sizeOf192, v146 := Tryd.zeroValue192, g1 := by kernel_rfl, i3 := by kernel_rfl, i4 := by kernel_rfl, i5 := by kernel_rfl, i9 := by kernel_rfl, i46 := by kernel_rfl, i51 := by kernel_rfl, i146 := by kernel_rfl, m1 := by kernel_rfl, s1_3 := fun w h => Go.Proofs.cell_of_shapedOpen_int (zero := #[.int .i64 0]) (t := 3) h (of_decide_eq_true (by kernel_rfl)) (by kernel_rfl) rfl (by kernel_rfl) (by kernel_rfl) Tryd.underlying3 }
theorem Tryd.bldX : Builder.Extra Tryd.prog Tryd.lays155_ren := { sizeBuilder := by kernel_rfl, liesBuilder := by kernel_rfl, t5 := Tryd.underlying5, a5 := Tryd.isAgg5, z5 := Tryd.sizeOf5, v5 := Tryd.zeroValue5, infoByte := by kernel_rfl, cellsByte := by kernel_rfl, sizeByte := by kernel_rfl, neB5 := by decide }
end Go.Proofs
namespace Lg
open Go Go.Proofs Go.RowKit
/-- The library's variable MaxLen holds some int. -/
class ML [GLay] : Prop where
  cell : ∃ m, ∀ w : World, Laid w → w.cell? ⟨0, 0, none⟩ = some (.int .i64 m)
section
variable [GLay] [ML]
theorem replA_c (s : ByteArray) (old nw : BL) (σ : List AO) (h0 : old ≠ []) (hne : old ≠ nw) (hs : s.size ≤ 1000000) (hn : nw.length ≤ 2) : ACalls Tryd.prog 61 [.str s, .str (ba old), .str (ba nw)] σ (Ret (.str (ba (ra old nw s.data.toList))) σ) :=
  ACalls_below fun st cargs g hp => by
    obtain ⟨q, qs, rfl, h1, h2⟩ := hp.inv_cons
    obtain ⟨q2, qs2, rfl, h3, h4⟩ := h2.inv_cons
    obtain ⟨q3, qs3, rfl, h5, h6⟩ := h4.inv_cons
    obtain rfl := h6.inv_nil
    obtain rfl := h1.inv_str
    obtain rfl := h3.inv_str
    obtain rfl := h5.inv_str
    obtain ⟨m, hm⟩ := ML.cell
    have hol : 1 ≤ (ba old).size := by rw [ba_size]; cases old with
      | nil => exact absurd rfl h0
      | cons => simp
    have hc := Lib.countB_le (ba old) hol s.size s (Nat.le_refl _)
    have hb : Lib.countB s (ba old) * (ba nw).size ≤ 1000000 * 2 := Nat.mul_le_mul (by omega) (by rw [ba_size]; exact hn)
    have h := Any.strings_ReplaceAll Tryd.lays155 Tryd.bldX s (ba old) (ba nw) m st.w (by omega) (hm _ g.laid) hol (by omega)
    rw [ba_toList, ba_toList, ra_all hne] at h
    exact ⟨_, fun _ => .str _, h⟩
theorem split_c (s : ByteArray) (c : UInt8) (σ : List AO) (hs : s.size ≤ 1000000) : ACalls Tryd.prog 116 [.str s, .str ⟨#[c]⟩] σ (fun o σ' => o = .ret (.arr σ.length 0 1 0 (pcs c s.data.toList).length) ∧ σ' = σ ++ [.arr 1 0 ((pcs c s.data.toList).map fun x => AV.str (ba x))]) := by
  intro st cargs hst g hp
  subst hst
  obtain ⟨q, qs, rfl, h1, h2⟩ := hp.inv_cons
  obtain ⟨q2, qs2, rfl, h3, h4⟩ := h2.inv_cons
  obtain rfl := h4.inv_nil
  obtain rfl := h1.inv_str
  obtain rfl := h3.inv_str
  obtain ⟨m, hm⟩ := ML.cell
  refine (Any.strings_Split Tryd.lays146 (by kernel_rfl) s ⟨#[c]⟩ m st.w (by omega) (hm _ g.laid) (by show 1 ≤ 1; omega)).mono ?_
  rintro e w' ⟨rfl, rfl⟩
  have hsp := splitB_pcs c s.data.toList.length s.data.toList (Nat.le_refl _)
  rw [← ba_eta] at hsp
  have hlen := Lib.splitB_all ⟨#[c]⟩ (by show 1 ≤ 1; omega) 0 _ s rfl
  rw [hsp, List.length_map] at hlen
  rw [hsp]
  obtain ⟨s', e1, e2, g', x', hμ⟩ := g.newArr (sz := 1) (cs := (pcs c s.data.toList).map fun x => AV.str (ba x)) (vs := ((pcs c s.data.toList).map ba).map Value.string) (by
    rw [List.take_of_length_le (by simp)]
    refine ⟨by simp, fun i cv v h1 h2 => ?_⟩
    rw [List.getElem?_map] at h1
    rw [List.getElem?_map, List.getElem?_map] at h2
    cases hx : (pcs c s.data.toList)[i]? with
    | none => rw [hx] at h1; cases h1
    | some x => rw [hx] at h1 h2; cases h1; cases h2; exact .str _) (by simp) (Tryd.lays146_ren.t 9) (Go.RowKit.Below.refl _ _) rfl
  exact ⟨s', e2, g', x', .arr st.σ.length 0 1 0 (Lib.countB s ⟨#[c]⟩ + 1), V.newArr (sz := 1) (cs := (pcs c s.data.toList).map fun x => AV.str (ba x)) (by rw [e1]; simp) hμ (Nat.le_refl _) (by simp; omega), by rw [hlen], e1⟩
end
theorem cell_heap0 [g : GLay] {W w : World} (hg : ∀ b, g.f b = W.heap[b]?) (hw : Laid w) {b c : Nat} {v : Value} (h : W.cell? ⟨b, c, none⟩ = some v) : w.cell? ⟨b, c, none⟩ = some v := by
  cases hb : W.heap[b]? with
  | none => simp [World.cell?, hb] at h
  | some o => rw [← h]; simp only [World.cell?, hb, hw b o ((hg b).trans hb)]
theorem ML.of [g : GLay] {W : World} (hS : W.ShapedOpen Tryd.prog) (hg : ∀ b, g.f b = W.heap[b]?) : ML := by
  obtain ⟨m, hm⟩ := Tryd.laysM143.s1_3 W hS
  exact ⟨m, fun w hw => cell_heap0 hg hw hm⟩
end Lg
set_option maxRecDepth 20000
set_option maxHeartbeats 4000000
namespace Lg
open Go Go.Proofs Go.RowKit
variable [GLay] [ML]
theorem pshw_c (f : Bool) (l : List BL) (σ : List AO) (hl : l.length ≤ 1000) (hx : ∀ x ∈ l, x.length ≤ 1000) : ACalls Tryd.prog 37 [.sl f 1 (srow l)] σ (Ret (.str (ba (shw l))) σ) := by
 refine ACalls_body Tryd.func37 rfl Tryd.ntmps37 (res1 Tryd.results37) (Nat.le_of_ble_eq_true rfl) (fun hcl hal => ?_)
 have hrl := srow_len l
 refine zw1 ?_
 refine zw1 ?_
 refine AWp_seq ?_
 refine zw3 ?_
 refine AWp_block ?_
 -- loop 0 LIVE 2:assign 3:assign 6:move 7:call 8:move
 refine AWp_loop (ι := Nat) (fun i => i ≤ l.length) (fun i => ⟨[], [(3, .str (ba (shw (l.take i)))), (6, .sl f 1 (srow l)), (7, .int .i64 ((srow l).length : Int)), (8, .int .i64 (i : Int))]⟩) (fun i => σ) (fun i => l.length - i) (0) (Nat.zero_le _) ?_ rfl (fun i hi => ?_)
 ·exact ⟨rfl, rfl, rfl, rfl, rfl, trivial⟩
 have hsl := shw_len 1000 (l.take i) (fun x h => hx x (List.mem_of_mem_take h))
 have htl : (l.take i).length ≤ 1000 := by rw [List.length_take]; omega
 have hsl2 : (shw (l.take i)).length ≤ 1000 * 2001 := Nat.le_trans hsl (Nat.mul_le_mul htl (Nat.le_refl _))
 refine zw1 ?_
 refine AWp_seq ?_
 refine AWp_cond rfl (fun h1 => ?_) (fun h1 => ?_)
 ·(try rw [h1]); replace h1 := zcl h1
  obtain ⟨x, hxi⟩ : ∃ x, l[i]? = some x := ⟨_, List.getElem?_eq_getElem (show i < l.length by omega)⟩
  have hxr := srow_get hxi
  have hxl := hx x (List.mem_of_getElem? hxi)
  have hr1 := ra1_len 126 [126, 48] (by decide) x
  have he1 := esc_len x
  refine AWp_skip ?_
  refine AWp_seq ?_
  refine AWp_block ?_
  refine zsr ?_
  refine zt rfl (op_indexAddr rfl Tryd.underlying64 Tryd.sizeOf9 rfl rfl (by omega) (hxr)) ?_
  refine zv2 ?_
  refine AWp_regL ?_
  refine zg2 ?_
  refine zt rfl (zc rfl (replA_c (ba x) [126] [126, 48] _ (by decide) (by decide) (by rw [ba_size]; omega) (by decide))) ?_
  rw [ba_toList]
  refine zt rfl (zc rfl (replA_c (ba (ra [126] [126, 48] x)) [47] [126, 49] _ (by decide) (by decide) (by rw [ba_size]; omega) (by decide))) ?_
  rw [ba_toList, esc_ra]
  have z1 : (ByteArray.mk #[47]).size = 1 := rfl
  have z2 : (ba (pesc x)).size = (pesc x).length := ba_size _
  have z3 : (ba (shw (l.take i))).size = (shw (l.take i)).length := ba_size _
  have z4 := ByteArray.size_append (a := (⟨#[47]⟩ : ByteArray)) (b := ba (pesc x))
  refine zv3 ?_
  refine AWp_regL ?_
  refine zv2 ?_
  refine ⟨i + 1, σ.length, by omega, by omega, Nat.le_refl _, ⟨rfl, ?_, rfl, rfl, rfl, trivial⟩, hcl, ?_, List.take_length⟩
  ·rw [List.take_add_one, hxi]; show _ = AV.str (ba (shw (List.take i l ++ [x]))); rw [shw_snoc, show (47 :: pesc x : BL) = [47] ++ pesc x from rfl, ← ba_app, ← ba_app]; rfl
  ·simp [ltE, AV.lt]
 ·(try rw [h1]); replace h1 := zcl h1
  refine AWp_exit ?_
  refine zw2 ?_
  refine zrt ?_
  exact ResQ_10 rfl hcl trivial (Ret_of (by rw [show i = l.length by omega, List.take_length]))

theorem names_c (f g : Bool) (a b : List BL) (σ : List AO) (hl : a.length ≤ 100000000) (hl2 : b.length ≤ 100000000) : ACalls Tryd.prog 41 [.sl f 1 (srow a), .sl g 1 (srow b)] σ (Ret (.int .i64 (bif pb (a = b) then 1 else 0)) σ) := by
 refine ACalls_body Tryd.func41 rfl Tryd.ntmps41 (res1 Tryd.results41) (Nat.le_of_ble_eq_true rfl) (fun hcl hal => ?_)
 have hra := srow_len a
 have hrb := srow_len b
 refine zw1 ?_
 refine AWp_seq ?_
 refine zw5 ?_
 refine AWp_cond rfl (fun h1 => ?_) (fun h1 => ?_)
 ·(try rw [h1]); replace h1 := zcl h1
  refine zw1 ?_
  refine zrt ?_
  exact ResQ_10 rfl hcl trivial (Ret_of (by rw [pb_f (fun h => h1 (by rw [h]))]; rfl))
 ·(try rw [h1]); replace h1 := zcl h1
  refine AWp_skip ?_
  refine AWp_seq ?_
  refine zw1 ?_
  refine AWp_block ?_
  -- loop 0 LIVE 0:param 1:param 4:assign 5:assign
  refine AWp_loop (ι := Nat) (fun i => i ≤ a.length ∧ ∀ (j : Nat), j < i → a[j]? = b[j]?) (fun i => ⟨[], [(0, .sl f 1 (srow a)), (1, .sl g 1 (srow b)), (5, .int .i64 (i : Int))]⟩) (fun i => σ) (fun i => a.length - i) (0) (⟨Nat.zero_le _, fun j h => absurd h (by omega)⟩) ?_ rfl (fun i hi => ?_)
  ·exact ⟨rfl, rfl, rfl, rfl, trivial⟩
  obtain ⟨hi1, hi2⟩ := hi
  refine AWp_seq ?_
  refine zw4 ?_
  refine AWp_cond rfl (fun h2 => ?_) (fun h2 => ?_)
  ·(try rw [h2]); replace h2 := zcl h2
   obtain ⟨x, hx⟩ : ∃ x, a[i]? = some x := ⟨_, List.getElem?_eq_getElem (show i < a.length by omega)⟩
   obtain ⟨y, hy⟩ : ∃ y, b[i]? = some y := ⟨_, List.getElem?_eq_getElem (show i < b.length by omega)⟩
   have hxr := srow_get hx
   have hyr := srow_get hy
   refine AWp_skip ?_
   refine AWp_seq ?_
   refine AWp_block ?_
   refine AWp_seq ?_
   refine AWp_drawL #[0, 0, 3, 7, 0, 0, 48, 112, 255] Tryd.mixed (by decide +kernel) (by decide +kernel) ?_
   refine zd2 ?_
   refine yA rfl rfl (fun _ => op_indexAddr rfl Tryd.underlying64 Tryd.sizeOf9 rfl rfl (by omega) (hxr)) ?_
   refine zp1 ?_
   refine zd2 ?_
   refine yA rfl rfl (fun _ => op_indexAddr rfl Tryd.underlying64 Tryd.sizeOf9 rfl rfl (by omega) (hyr)) ?_
   refine zp1 ?_
   refine zd1 ?_
   refine RP.nil rfl ?_
   refine AWp_cond rfl (fun h3 => ?_) (fun h3 => ?_)
   ·(try rw [h3]); replace h3 := zcl h3
    refine zw1 ?_
    refine zrt ?_
    exact ResQ_10 rfl hcl trivial (Ret_of (by rw [pb_f (fun h => h3 (by rw [h, hy] at hx; cases hx; rfl))]; rfl))
   ·(try rw [h3]); replace h3 := zcl h3
    refine AWp_skip ?_
    refine AWp_regL ?_
    refine zv3 ?_
    refine ⟨i + 1, σ.length, ⟨by omega, fun j hj => ?_⟩, by omega, Nat.le_refl _, ⟨rfl, rfl, rfl, rfl, trivial⟩, hcl, ?_, List.take_length⟩
    ·by_cases e : j = i
     ·subst e; rw [hx, hy, ba_inj.1 h3]
     ·exact hi2 j (by omega)
    ·simp [ltE, AV.lt]
  ·(try rw [h2]); replace h2 := zcl h2
   refine AWp_exit ?_
   refine zw1 ?_
   refine zrt ?_
   have hab : a = b := List.ext_getElem? fun j => by by_cases hj : j < i; exact hi2 j hj; rw [List.getElem?_eq_none (by omega), List.getElem?_eq_none (by omega)]
   exact ResQ_10 rfl hcl trivial (Ret_of (by rw [pb_t hab]; rfl))
end Lg
namespace Lg
open Go Go.RowKit
variable [GLay]
variable {P : Program} {N : Nat} {σ l : List AO} {e : Env} {Q : QA} {o : Oper}
/-- A pointer in an interface, to a box of the call's own, becomes one to what is never written again. -/
theorem AWp_freezeI {c : Code} (t p off : Nat) (T : TypeId) {cs : List AV} (hl : lookO e.l t = some (.iface T (.ptr p off))) (hσ : σ[p]? = some (.box cs)) (k : AWp P N c (e.put (some t) (.iface T (.pp (cs.drop off)))) (σ.set p .gone) Q) (ht : t < N) : AWp P N c e σ Q := fun s0 s a hs g x he => by
  subst hs
  have hv := he.tmps t
  rw [show e.look t = .iface T (.ptr p off) from lookO_eq hl] at hv
  obtain ⟨v, hv0, hv1⟩ := hv.inv_iface
  obtain ⟨s', e1, e2, g', x', hv'⟩ := freezeBox_V g hσ hv1
  have hv2 : V s' (.iface T (.pp (cs.drop off))) (a.eval (.tmp t)) := by rw [hv0]; exact .iface _ _ _ hv'
  have := k s0 s' a e1 g' (x.trans x') (by
    have h1 := (he.mono g x').put (some t) hv2 (fun d hd => by cases hd; exact ht)
    have h2 : a.put (some t) (a.eval (.tmp t)) = a := put_self (by rw [he.size]; exact ht)
    rwa [h2] at h1)
  rwa [e2] at this
section asserts
variable {T U U' E : TypeId} {x : Operand} {v : AV}
theorem op_assertT (ho : o.op = .typeAssert x T U true) (hu : P.underlying U = some (.pointer E)) (hx : opO e x = some (.iface U v)) : AOp P σ e o (.tup [v, .bool true]) σ :=
  .of_run fun s a hs g hv => by
    have h1 := hv x (by simp [ho, Op.operands])
    rw [opO_eq hx] at h1
    obtain ⟨w, h2, h3⟩ := h1.inv_iface
    refine ⟨.tuple #[w, .bool true], ?_, .tup [v, .bool true] [w, .bool true] rfl (fun i c z e1 e2 => by
      match i, e1, e2 with
      | 0, e1, e2 => cases e1; cases e2; exact h3
      | 1, e1, e2 => cases e1; cases e2; exact .bool _)⟩
    simp [execOp, ho, h2, Instr.typeAssert, run_underlying hu]
theorem op_assertF (ho : o.op = .typeAssert x T U true) (hu : P.underlying U = some (.pointer E)) (hz : ∀ w, (zeroValue U).run P w = Result.ok (.pointer none) w) (hx : opO e x = some (.iface U' v)) (hne : U' ≠ U) : AOp P σ e o (.tup [.nilp, .bool false]) σ :=
  .of_run fun s a hs g hv => by
    have h1 := hv x (by simp [ho, Op.operands])
    rw [opO_eq hx] at h1
    obtain ⟨w, h2, h3⟩ := h1.inv_iface
    refine ⟨.tuple #[.pointer none, .bool false], ?_, .tup [.nilp, .bool false] [.pointer none, .bool false] rfl (fun i c z e1 e2 => by
      match i, e1, e2 with
      | 0, e1, e2 => cases e1; cases e2; exact .nilp
      | 1, e1, e2 => cases e1; cases e2; exact .bool _)⟩
    simp [execOp, ho, h2, Instr.typeAssert, run_underlying hu, hne, hz]
end asserts
end Lg
set_option maxRecDepth 20000
set_option maxHeartbeats 4000000
namespace Lg
open Go Go.Proofs Go.RowKit
variable [GLay] 
def errV : Option (Int × Int) → AV
  | none => .nili
  | some z => .iface 99 (.pp [.int .i64 z.1, .int .i64 z.2])
theorem errV_lt (n : Nat) (z : Option (Int × Int)) : (errV z).lt n := by
  cases z <;> simp [errV, AV.lt, AV.ltL]
theorem op_neErr {P : Program} {σ : List AO} {e : Env} {o : Oper} {T T' : TypeId} {x : Operand} {ms : Array (String × TypeId)} {z : Option (Int × Int)} (ho : o.op = .binOp .neq T x (.const .nilIface) T') (hu : P.underlying T = some (.interface ms)) (hx : opO e x = some (errV z)) : AOp P σ e o (.bool z.isSome) σ := by
  cases z with
  | none => exact op_neINil ho hu hx
  | some z => exact op_neIN ho hu hx
end Lg
set_option maxRecDepth 20000
set_option maxHeartbeats 4000000
namespace Lg
open Go Go.Proofs Go.RowKit
variable [GLay] [ML]
theorem ptrP_c (s : BL) (σ : List AO) (hs : s.length ≤ 1000000) : ACalls Tryd.prog 92 [.str (ba s)] σ (Ret (.tup [.sl false 1 (srow (pN s)), errV ((pE s).map fun i => ((i : Int), (1 : Int)))]) σ) := by
 refine ACalls_body Tryd.func92 rfl Tryd.ntmps92 (res2 Tryd.results92) (Nat.le_of_ble_eq_true rfl) (fun hcl hal => ?_)
 have hbz : (ba s).size = s.length := ba_size s
 refine zw2 ?_
 refine AWp_seq ?_
 refine zw2 ?_
 refine AWp_cond rfl (fun h1 => ?_) (fun h1 => ?_)
 ·(try rw [h1]); replace h1 := zcl h1
  have hs0 : s = [] := ba_nil.1 h1
  refine zw2 ?_
  refine AWp_slotLe 2 rfl (AVle.nils false 1) ?_ (by decide)
  refine zrt ?_
  subst hs0
  exact ResQ_20 rfl rfl hcl (by simp [AV.lt, AV.ltL, AV.ltLL]) (Ret_of rfl)
 ·(try rw [h1]); replace h1 := zcl h1
  have hs0 : ¬ s = [] := fun e => h1 (ba_nil.2 e)
  have hsl : 0 < s.length := List.length_pos_iff.2 hs0
  refine AWp_skip ?_
  refine AWp_seq ?_
  refine zw3 ?_
  refine AWp_cond rfl (fun h2 => ?_) (fun h2 => ?_)
  ·(try rw [h2]); replace h2 := zcl h2
   have h47 : ¬ s[0]? = some 47 := fun e => h2 ((g47 hsl).1 e)
   refine zw5 ?_
   refine AWp_slotLe 2 rfl (AVle.nils false 1) ?_ (by decide)
   refine AWp_freezeI (cs := [.int .i64 0, .int .i64 1]) 3 (σ.length + 0) 0 99 rfl (by rw [get_own]; rfl) ?_ (by decide)
   rw [set_own]
   refine zrt ?_
   have hE : pE s = some 0 := by unfold pE; rw [if_neg hs0, if_pos h47]
   have hN : pN s = [] := by unfold pN; rw [if_neg hs0, hE]; rfl
   rw [hE, hN]
   exact ResQ_2 rfl rfl hcl (by simp [AV.lt, AV.ltL, AV.ltLL]) (Ret_of rfl)
  ·(try rw [h2]); replace h2 := zcl h2
   have h47 : s[0]? = some 47 := (g47 hsl).2 h2
   refine AWp_skip ?_
   refine AWp_seq ?_
   refine zw3 ?_
   refine AWp_block ?_
   -- loop 0 LIVE 0:param 2:assign 3:assign 17:call 18:move
   refine AWp_loop (ι := Nat) (fun i => i ≤ s.length ∧ ∀ j, j < i → tbad s j = false) (fun i => ⟨[], [(0, .str (ba s)), (17, .int .i64 ((ba s).size : Int)), (18, .int .i64 (i : Int))]⟩) (fun i => σ) (fun i => s.length - i) (0) (⟨Nat.zero_le _, fun j h => absurd h (by omega)⟩) ?_ rfl (fun i hi => ?_)
   ·exact ⟨rfl, rfl, rfl, rfl, trivial⟩
   obtain ⟨hi1, hi2⟩ := hi
   refine zw1 ?_
   refine AWp_seq ?_
   refine AWp_cond rfl (fun h3 => ?_) (fun h3 => ?_)
   ·(try rw [h3]); replace h3 := zcl h3
    refine AWp_skip ?_
    refine AWp_seq ?_
    refine AWp_block ?_
    refine zw2 ?_
    refine zu5 ?_
    refine zsp 25 rfl (fun h4 => ?_) fun h4 => ?_
    ·rw [h4]; replace h4 := zcl h4
     refine zg6 ?_
     refine zsp 31 rfl (fun h5 => ?_) fun h5 => ?_
     ·rw [h5]; replace h5 := zcl h5
      refine zg10 ?_
      refine zg4 ?_
      refine zon ?_
      refine AWp_condT rfl ?_
      refine zw6 ?_
      refine AWp_slotLe 2 rfl (AVle.nils false 1) ?_ (by decide)
      refine AWp_freezeI (cs := [.int .i64 (i : Int), .int .i64 1]) 3 (σ.length + 0) 0 99 rfl (by rw [get_own]; rfl) ?_ (by decide)
      rw [set_own]
      refine zrt ?_
      have ht : tbad s i = true := tbad_t (show i < s.length by omega) h4 (by first | exact .inl (by omega) | exact .inr ⟨h6, h7⟩)
      have hE : pE s = some i := pE_at hs0 h47 (by omega) ht hi2
      have hN : pN s = [] := by unfold pN; rw [if_neg hs0, hE]; rfl
      rw [hE, hN]
      exact ResQ_2 rfl rfl hcl (by simp [AV.lt, AV.ltL, AV.ltLL]) (Ret_of rfl)
     ·rw [h5]; replace h5 := zcl h5
      refine zg6 ?_
      refine zsp 37 rfl (fun h6 => ?_) fun h6 => ?_
      ·rw [h6]; replace h6 := zcl h6
       refine zv8 ?_
       refine AWp_cond rfl (fun h7 => ?_) (fun h7 => ?_)
       ·(try rw [h7]); replace h7 := zcl h7
        refine zw6 ?_
        refine AWp_slotLe 2 rfl (AVle.nils false 1) ?_ (by decide)
        refine AWp_freezeI (cs := [.int .i64 (i : Int), .int .i64 1]) 3 (σ.length + 0) 0 99 rfl (by rw [get_own]; rfl) ?_ (by decide)
        rw [set_own]
        refine zrt ?_
        have ht : tbad s i = true := tbad_t (show i < s.length by omega) h4 (by first | exact .inl (by omega) | exact .inr ⟨h6, h7⟩)
        have hE : pE s = some i := pE_at hs0 h47 (by omega) ht hi2
        have hN : pN s = [] := by unfold pN; rw [if_neg hs0, hE]; rfl
        rw [hE, hN]
        exact ResQ_2 rfl rfl hcl (by simp [AV.lt, AV.ltL, AV.ltLL]) (Ret_of rfl)
       ·(try rw [h7]); replace h7 := zcl h7
        refine AWp_skip ?_
        refine AWp_regL ?_
        refine zv2 ?_
        refine ⟨i + 1, σ.length, ⟨by omega, fun j hj => ?_⟩, by omega, Nat.le_refl _, ⟨rfl, rfl, rfl, rfl, trivial⟩, hcl, ?_, List.take_length⟩
        ·by_cases e : j = i
         ·subst e; exact tbad_f (show j < s.length by omega) (fun h0 => by first | exact absurd h0 h4 | (refine ⟨by omega, ?_⟩; first | exact .inl h6 | exact .inr h7))
         ·exact hi2 j (by omega)
        ·simp [ltE, AV.lt]
      ·rw [h6]; replace h6 := zcl h6
       refine zv8 ?_
       refine AWp_condF rfl ?_
       refine AWp_skip ?_
       refine AWp_regL ?_
       refine zv2 ?_
       refine ⟨i + 1, σ.length, ⟨by omega, fun j hj => ?_⟩, by omega, Nat.le_refl _, ⟨rfl, rfl, rfl, rfl, trivial⟩, hcl, ?_, List.take_length⟩
       ·by_cases e : j = i
        ·subst e; exact tbad_f (show j < s.length by omega) (fun h0 => by first | exact absurd h0 h4 | (refine ⟨by omega, ?_⟩; first | exact .inl h6 | exact .inr h7))
        ·exact hi2 j (by omega)
       ·simp [ltE, AV.lt]
    ·rw [h4]; replace h4 := zcl h4
     refine zg20 ?_
     refine zon ?_
     refine AWp_condF rfl ?_
     refine AWp_skip ?_
     refine AWp_regL ?_
     refine zv2 ?_
     refine ⟨i + 1, σ.length, ⟨by omega, fun j hj => ?_⟩, by omega, Nat.le_refl _, ⟨rfl, rfl, rfl, rfl, trivial⟩, hcl, ?_, List.take_length⟩
     ·by_cases e : j = i
      ·subst e; exact tbad_f (show j < s.length by omega) (fun h0 => by first | exact absurd h0 h4 | (refine ⟨by omega, ?_⟩; first | exact .inl h6 | exact .inr h7))
      ·exact hi2 j (by omega)
     ·simp [ltE, AV.lt]
   ·(try rw [h3]); replace h3 := zcl h3
    have hE : pE s = none := pE_none hs0 h47 (fun j hj => hi2 j (by omega))
    have hok : okP s := (pE_ok hs0 hE).2
    refine AWp_exit ?_
    refine zu2 ?_
    obtain ⟨t, ht⟩ : ∃ t, t = s.drop 1 := ⟨_, rfl⟩
    have htl : t.length + 1 = s.length := by rw [ht, List.length_drop]; omega
    have hot : okP t := by rw [ht]; cases s with | nil => exact absurd rfl hs0 | cons b r => exact okP_tl hok
    rw [ext_tl, ← ht]
    refine ztR rfl (zcR rfl (split_c (ba t) 47 _ (by rw [ba_size]; omega))) (fun v11_2 s11_2 hr => ?_) (fun v11_2 s11_2 hr => ?_)
    rotate_left
    ·exact nomatch hr.1
    obtain ⟨hv, hh⟩ := hr
    cases hv
    subst hh
    rw [ba_toList] at *
    generalize hL : pcs 47 t = L at *
    refine zv1 ?_
    refine AWp_seq ?_
    refine zu1 ?_
    refine zt rfl (op_lenS rfl rfl Tryd.underlying64 rfl rfl ⟨1, _, get_own 0⟩) ?_
    refine zv1 ?_
    refine AWp_block ?_
    -- loop 1 LIVE 2:assign 3:assign 5:assign 54:move 55:call 56:move
    have hLl : L.length ≤ t.length + 1 := by rw [← hL]; exact pcs_len 47 t
    rw [← pcell_0 L]
    refine AWp_loop (ι := Nat) (fun i => i ≤ L.length) (fun i => ⟨[], [(5, .arr (σ.length + 0) 0 1 0 L.length), (54, .arr (σ.length + 0) 0 1 0 L.length), (55, .int .i64 (L.length : Int)), (56, .int .i64 (i : Int))]⟩) (fun i => σ ++ [.arr 1 0 (pcell L i)]) (fun i => L.length - i) (0) (Nat.zero_le _) ?_ rfl (fun i hi => ?_)
    ·exact ⟨rfl, rfl, rfl, rfl, rfl, trivial⟩
    refine zw1 ?_
    refine AWp_seq ?_
    refine AWp_cond rfl (fun h8 => ?_) (fun h8 => ?_)
    ·(try rw [h8]); replace h8 := zcl h8
     obtain ⟨x, hx⟩ : ∃ x, L[i]? = some x := ⟨_, List.getElem?_eq_getElem (show i < L.length by omega)⟩
     have hxo := pcs_ok t.length t (Nat.le_refl _) hot x (by rw [hL]; exact List.mem_of_getElem? hx)
     have hxr := ra2_len x hxo.1
     refine AWp_skip ?_
     refine AWp_seq ?_
     refine AWp_block ?_
     refine zu1 ?_
     refine zt rfl (op_indexAddrAO (j := 0) rfl Tryd.underlying64 Tryd.sizeOf9 rfl rfl (by omega) (by omega) rfl) ?_
     refine zt rfl (op_load1 rfl Tryd.isAgg9 (ldv_el (j := 0) (i := i) rfl (pcell_get hx) (Nat.mul_one _))) ?_
     refine zv2 ?_
     refine AWp_regL ?_
     refine zg3 ?_
     refine zt rfl (zc rfl (replA_c (ba x) [126, 49] [47] _ (by decide) (by decide) (by rw [ba_size]; omega) (by decide))) ?_
     rw [ba_toList]
     refine zt rfl (zc rfl (replA_c (ba (ra [126, 49] [47] x)) [126, 48] [126] _ (by decide) (by decide) (by rw [ba_size]; omega) (by decide))) ?_
     rw [ba_toList, une_ra x hxo.1]
     refine zt rfl (op_indexAddrAO (j := 0) rfl Tryd.underlying64 Tryd.sizeOf9 rfl rfl (by omega) (by omega) rfl) ?_
     refine ztN rfl rfl (op_storeEl (j := 0) (i := i) rfl Tryd.sizeOf9 rfl rfl (Nat.mul_one _) rfl (by rw [pcell_len]; omega)) ?_
     refine zon ?_
     refine AWp_regL ?_
     refine zv2 ?_
     refine ⟨i + 1, σ.length + 1, by omega, by omega, by simp, ⟨rfl, rfl, rfl, rfl, rfl, trivial⟩, closed_own 1 hcl ?_, ?_, ?_⟩
     ·show ownLt (σ.length + 1) [AO.arr 1 0 ((pcell L i).set i (.str (ba (pune x))))]
      rw [pcell_step hx]; simp [ownLt, AO.cells]
     ·simp [ltE, AV.lt]
     ·refine (take_own 1).trans ?_
      rw [← pcell_step hx]; rfl
    ·(try rw [h8]); replace h8 := zcl h8
     have hie : i = L.length := by omega
     subst hie
     refine AWp_exit ?_
     refine zw3 ?_
     refine AWp_freezeAO 2 0 0 1 L.length (srow (L.map pune)) rfl (by rw [pcell_end]; rfl) (srow_el _) (by rw [srow_len, List.length_map]) (by decide) ?_ (by decide)
     refine zrt ?_
     have hN : pN s = L.map pune := by unfold pN; rw [if_neg hs0, hE, ← hL, ← ht]; rfl
     rw [hE, hN]
     exact ResQ_2 rfl rfl hcl (by simp [AV.lt, AV.ltL]) (Ret_of rfl)
end Lg
set_option maxRecDepth 20000
set_option maxHeartbeats 4000000
namespace Lg
open Go Go.Proofs Go.RowKit
variable [GLay] 
end Lg
set_option maxRecDepth 20000
set_option maxHeartbeats 4000000
namespace Lg
open Go Go.Proofs Go.RowKit
variable [GLay] 
theorem find_c (v : JV) (key : ByteArray) (σ : List AO) (hb : v.m.length ≤ 1000000) : ACalls Tryd.prog 72 [.agg (vcells v), .str key] σ (FindR v key σ) := by
 refine ACalls_bodyC Tryd.func72 rfl Tryd.ntmps72 (by rw [Tryd.results72]; exact (.ck Tryd.isAgg28 Tryd.sizeOf28 (.t .nil))) (Nat.le_of_ble_eq_true rfl) (fun hcl hal => ?_)
 rw [vcells_eq v]
 refine zw3 ?_
 refine AWp_seq ?_
 refine zw3 ?_
 refine AWp_cond rfl (fun h1 => ?_) (fun h1 => ?_)
 ·(try rw [h1]); replace h1 := zcl h1
  refine zw3 ?_
  refine zrt ?_
  have hf : jfind v key = none := by simp [jfind, h1]
  refine RQ_ret (rkvs_cons (rkv_ck rfl rfl rfl) (rkvs_cons (rkv_t rfl) rfl)) hcl ?_ ⟨rfl, _, _, rfl, ?_, ?_⟩
  ·simp [rks, AV.lt, AV.ltL, ofConst1]
  ·rw [hf]; exact vle8 nilL nilM
  ·rw [hf]; rfl
 ·(try rw [h1]); replace h1 := zcl h1
  refine AWp_skip ?_
  refine AWp_seq ?_
  refine zw4 ?_
  refine AWp_block ?_
  -- loop 0 LIVE 1:param 4:alloc 5:assign 13:load 14:call 15:move
  refine AWp_loop (ι := Nat) (fun i => i ≤ v.m.length ∧ ∀ (j : Nat) q, j < i → v.m[j]? = some q → ¬ q.1 = key) (fun i => ⟨[], [(1, .str key), (2, .ptr (σ.length + 0) 0), (4, .ptr (σ.length + 1) 0), (13, .sl false 9 (mcells v.m)), (14, .int .i64 (v.m.length : Int)), (15, .int .i64 (i : Int))]⟩) (fun i => σ ++ [_, _]) (fun i => v.m.length - i) (0) (⟨Nat.zero_le _, fun j q hj => absurd hj (by omega)⟩) ?_ rfl (fun i hi => ?_)
  ·refine ⟨rfl, rfl, rfl, rfl, rfl, ?_, rfl, trivial⟩
   rw [← mcells_length]; rfl
  obtain ⟨hi1, hi2⟩ := hi
  refine zw1 ?_
  refine AWp_seq ?_
  refine AWp_cond rfl (fun h2 => ?_) (fun h2 => ?_)
  ·(try rw [h2]); replace h2 := zcl h2
   obtain ⟨q, hq⟩ : ∃ q, v.m[i]? = some q := ⟨_, List.getElem?_eq_getElem (show i < v.m.length by omega)⟩
   refine AWp_skip ?_
   refine AWp_seq ?_
   refine AWp_block ?_
   refine zu1 ?_
   rw [vcells_eq q.2]
   refine zv3 ?_
   refine zw4 ?_
   refine AWp_cond rfl (fun h3 => ?_) (fun h3 => ?_)
   ·(try rw [h3]); replace h3 := zcl h3
    refine zw4 ?_
    refine zrt ?_
    have hf : jfind v key = some q.2 := by rw [jfind, if_pos h1, find_some (fun j y hj hy => by simpa using hi2 j y hj hy) hq (by simpa using h3)]; rfl
    refine RQ_ret (rkvs_cons (rkv_ck rfl rfl rfl) (rkvs_cons (rkv_t rfl) rfl)) hcl ?_ ⟨rfl, _, _, rfl, ?_, ?_⟩
    ·simp [rks, AV.lt, AV.ltL, ofConst1]
    ·rw [hf]; show AVleL _ (vcells q.2); rw [vcells_eq]; exact AVleL.refl _
    ·rw [hf]; rfl
   ·(try rw [h3]); replace h3 := zcl h3
    refine AWp_skip ?_
    refine AWp_regL ?_
    refine zv2 ?_
    refine ⟨i + 1, σ.length + 2, ⟨by omega, fun j y hj hy => ?_⟩, by omega, by simp, ⟨rfl, rfl, rfl, rfl, rfl, rfl, rfl, trivial⟩, closed_own 2 hcl ?_, ?_, take_own 2⟩
    ·by_cases e : j = i
     ·subst e; rw [hq] at hy; cases hy; exact h3
     ·exact hi2 j y (by omega) hy
    ·simp [ownLt, AO.cells, AV.ltL, AV.lt, ofConst1]
    ·simp [ltE, AV.lt]
  ·(try rw [h2]); replace h2 := zcl h2
   refine AWp_exit ?_
   refine zw3 ?_
   refine zrt ?_
   have hf : jfind v key = none := by rw [jfind, if_pos h1, find_none (fun j y hy => by simpa using hi2 j y (by have := (List.getElem?_eq_some_iff.1 hy).1; omega) hy)]; rfl
   refine RQ_ret (rkvs_cons (rkv_ck rfl rfl rfl) (rkvs_cons (rkv_t rfl) rfl)) hcl ?_ ⟨rfl, _, _, rfl, ?_, ?_⟩
   ·simp [rks, AV.lt, AV.ltL, ofConst1]
   ·rw [hf]; exact vle8 nilL nilM
   ·rw [hf]; rfl

theorem rfind_c (v : JV) (key : ByteArray) (σ : List AO) (hb : v.m.length ≤ 1000000) : ACalls Tryd.prog 49 [.agg (vcells v), .str key] σ (FindR v key σ) := by
 refine ACalls_bodyC Tryd.func49 rfl Tryd.ntmps49 (by rw [Tryd.results49]; exact (.ck Tryd.isAgg28 Tryd.sizeOf28 (.t .nil))) (Nat.le_of_ble_eq_true rfl) (fun hcl hal => ?_)
 have hmc := mcells_length v.m
 rw [vcells_eq v]
 refine zw3 ?_
 refine AWp_seq ?_
 refine zw1 ?_
 refine AWp_block ?_
 -- loop 0 LIVE 1:param 2:box 4:alloc 5:assign 6:assign
 refine AWp_loop (ι := Nat) (fun i => i ≤ v.m.length ∧ ∀ (j : Nat) q, j < i → v.m[j]? = some q → ¬ (v.kind = 5 ∧ q.1 = key)) (fun i => ⟨[], [(1, .str key), (2, .ptr (σ.length + 0) 0), (4, .ptr (σ.length + 1) 0), (6, .int .i64 (i : Int))]⟩) (fun i => σ ++ [_, _]) (fun i => v.m.length - i) (0) (⟨Nat.zero_le _, fun j q hj => absurd hj (by omega)⟩) ?_ rfl (fun i hi => ?_)
 ·exact ⟨rfl, rfl, rfl, rfl, rfl, trivial⟩
 obtain ⟨hi1, hi2⟩ := hi
 refine AWp_seq ?_
 refine zw5 ?_
 refine AWp_cond rfl (fun h1 => ?_) (fun h1 => ?_)
 ·(try rw [h1]); replace h1 := zcl h1
  obtain ⟨q, hq⟩ : ∃ q, v.m[i]? = some q := ⟨_, List.getElem?_eq_getElem (show i < v.m.length by omega)⟩
  refine AWp_skip ?_
  refine AWp_seq ?_
  refine AWp_block ?_
  refine zu4 ?_
  refine zsp 17 rfl (fun h2 => ?_) fun h2 => ?_
  ·rw [h2]; replace h2 := zcl h2
   refine zv9 ?_
   refine AWp_cond rfl (fun h3 => ?_) (fun h3 => ?_)
   ·(try rw [h3]); replace h3 := zcl h3
    refine zu5 ?_
    rw [vcells_eq q.2]
    refine zv3 ?_
    refine zrt ?_
    have hf : jfind v key = some q.2 := by rw [jfind, if_pos h2, find_some (fun j y hj hy => by have := hi2 j y hj hy; simpa [h2] using this) hq (by simpa using h3)]; rfl
    refine RQ_ret (rkvs_cons (rkv_ck rfl rfl rfl) (rkvs_cons (rkv_t rfl) rfl)) hcl ?_ ⟨rfl, _, _, rfl, ?_, ?_⟩
    ·simp [rks, AV.lt, AV.ltL, ofConst1]
    ·rw [hf]; show AVleL _ (vcells q.2); rw [vcells_eq]; exact AVleL.refl _
    ·rw [hf]; rfl
   ·(try rw [h3]); replace h3 := zcl h3
    refine AWp_skip ?_
    refine AWp_regL ?_
    refine zv3 ?_
    refine ⟨i + 1, σ.length + 2, ⟨by omega, fun j y hj hy => ?_⟩, by omega, by simp, ⟨rfl, rfl, rfl, rfl, rfl, trivial⟩, closed_own 2 hcl ?_, ?_, take_own 2⟩
    ·by_cases e : j = i
     ·subst e; rw [hq] at hy; cases hy; exact fun h => h3 h.2
     ·exact hi2 j y (by omega) hy
    ·simp [ownLt, AO.cells, AV.ltL, AV.lt, ofConst1]
    ·simp [ltE, AV.lt]
  ·rw [h2]; replace h2 := zcl h2
   refine zv9 ?_
   refine AWp_condF rfl ?_
   refine AWp_skip ?_
   refine AWp_regL ?_
   refine zv3 ?_
   refine ⟨i + 1, σ.length + 2, ⟨by omega, fun j y hj hy => ?_⟩, by omega, by simp, ⟨rfl, rfl, rfl, rfl, rfl, trivial⟩, closed_own 2 hcl ?_, ?_, take_own 2⟩
   ·by_cases e : j = i
    ·subst e; rw [hq] at hy; cases hy; exact fun h => h2 h.1
    ·exact hi2 j y (by omega) hy
   ·simp [ownLt, AO.cells, AV.ltL, AV.lt, ofConst1]
   ·simp [ltE, AV.lt]
 ·(try rw [h1]); replace h1 := zcl h1
  refine AWp_exit ?_
  refine zw3 ?_
  refine zrt ?_
  have hf : jfind v key = none := by
   by_cases hk : v.kind = 5
   ·rw [jfind, if_pos hk, find_none (fun j y hy => by have := hi2 j y (by have := (List.getElem?_eq_some_iff.1 hy).1; omega) hy; simpa [hk] using this)]; rfl
   ·simp [jfind, hk]
  refine RQ_ret (rkvs_cons (rkv_ck rfl rfl rfl) (rkvs_cons (rkv_t rfl) rfl)) hcl ?_ ⟨rfl, _, _, rfl, ?_, ?_⟩
  ·simp [rks, AV.lt, AV.ltL, ofConst1]
  ·rw [hf]; exact vle8 nilL nilM
  ·rw [hf]; rfl
end Lg
set_option maxRecDepth 20000
set_option maxHeartbeats 4000000
namespace Lg
open Go Go.Proofs Go.RowKit
variable [GLay] [ML]
theorem ptrQ_c (s : ByteArray) (σ : List AO) (hs : s.size ≤ 1000000) : ACalls Tryd.prog 92 [.str s] σ (Ret (.tup [.sl false 1 (srow (pN s.data.toList)), errV ((pE s.data.toList).map fun i => ((i : Int), (1 : Int)))]) σ) := by
  have hl : s.data.toList.length = s.size := Array.length_toList ..
  have h := ptrP_c s.data.toList σ (by omega)
  rw [← ba_eta] at h; exact h
theorem rptrQ_c (s : ByteArray) (σ : List AO) (hs : s.size ≤ 1000000) : ACalls Tryd.prog 93 [.str s] σ (Ret (.tup [.sl false 1 (srow (pN s.data.toList)), .int .i64 (pEi s.data.toList)]) σ) := by
  have hl : s.data.toList.length = s.size := Array.length_toList ..
  have h := rptr_c s.data.toList σ (by omega)
  rw [← ba_eta] at h; exact h
theorem op_eqErr {P : Program} {σ : List AO} {e : Env} {o : Oper} {T T' : TypeId} {x : Operand} {ms : Array (String × TypeId)} {z : Option (Int × Int)} (ho : o.op = .binOp .eql T x (.const .nilIface) T') (hu : P.underlying T = some (.interface ms)) (hx : opO e x = some (errV z)) : AOp P σ e o (.bool z.isNone) σ := by
  cases z with
  | none => exact op_eqINil ho hu hx
  | some z => exact op_eqIN ho hu hx
theorem findQ_c (v : JV) (key : ByteArray) (cs : List AV) (σ : List AO) (hc : vcells v = cs) (hb : v.m.length ≤ 1000000) : ACalls Tryd.prog 72 [.agg cs, .str key] σ (Ret (.tup [.agg (vcells (jfD v key)), .bool (jfB v key)]) σ) := by
  subst hc; exact FindR.ret (find_c v key σ hb)
theorem rfindQ_c (v : JV) (key : ByteArray) (cs : List AV) (σ : List AO) (hc : vcells v = cs) (hb : v.m.length ≤ 1000000) : ACalls Tryd.prog 49 [.agg cs, .str key] σ (Ret (.tup [.agg (vcells (jfD v key)), .bool (jfB v key)]) σ) := by
  subst hc; exact FindR.ret (rfind_c v key σ hb)
theorem pptrM_c (v : JV) (key : ByteArray) (cs : List AV) (σ : List AO) (hc : vcells v = cs) (hb : v.m.length ≤ 1000000) (hs : (jfD v key).s.size ≤ 1000000) : ACalls Tryd.prog 74 [.agg cs, .str key] σ (Ret (.tup [.sl false 1 (srow (jptN v key)), .bool (jptB v key)]) σ) := by
 refine ACalls_body Tryd.func74 rfl Tryd.ntmps74 (res2 Tryd.results74) (Nat.le_of_ble_eq_true rfl) (fun hcl hal => ?_)
 subst hc
 rw [vcells_eq v]
 refine zw3 ?_
 refine zu2 ?_
 refine zt rfl (zc rfl (findQ_c v key _ _ (vcells_eq v) hb)) ?_
 rw [vcells_eq (jfD v key)]
 refine zv6 ?_
 refine AWp_seq ?_
 refine zu3 ?_
 refine zsp 18 rfl (fun h1 => ?_) fun h1 => ?_
 ·rw [h1]; replace h1 := zcl h1
  refine zv4 ?_
  refine AWp_condT rfl ?_
  refine zw2 ?_
  refine AWp_slotLe 4 rfl (AVle.nils false 1) ?_ (by decide)
  refine zrt ?_
  have hp := jpt_no (v := v) (key := key) (.inl (by simpa using h1))
  rw [hp.1, hp.2]
  exact ResQ_2 rfl rfl hcl (by simp [AV.lt, AV.ltL, AV.ltLL]) (Ret_of rfl)
 ·rw [h1]; replace h1 := zcl h1
  refine zv4 ?_
  refine AWp_cond rfl (fun h2 => ?_) (fun h2 => ?_)
  ·(try rw [h2]); replace h2 := zcl h2
   refine zw2 ?_
   refine AWp_slotLe 4 rfl (AVle.nils false 1) ?_ (by decide)
   refine zrt ?_
   have hp := jpt_no (v := v) (key := key) (.inr h2)
   rw [hp.1, hp.2]
   exact ResQ_2 rfl rfl hcl (by simp [AV.lt, AV.ltL, AV.ltLL]) (Ret_of rfl)
  ·(try rw [h2]); replace h2 := zcl h2
   have hp := jpt_yes (key := key) (by simpa using h1) h2
   refine AWp_skip ?_
   refine zu2 ?_
   refine zt rfl (zc rfl (ptrQ_c (jfD v key).s _ hs)) ?_
   refine zv5 ?_
   refine AWp_seq ?_
   refine AWp_drawL #[0, 0, 2, 1, 15] Tryd.mixed (by decide +kernel) (by decide +kernel) ?_
   refine zd2 ?_
   refine yA rfl rfl (fun _ => op_eqErr rfl Tryd.underlying35 rfl) ?_
   refine zd2 ?_
   refine RP.nil rfl ?_
   refine zrt ?_
   rw [hp.1, hp.2]
   exact ResQ_2 rfl rfl hcl (by simp [AV.lt, AV.ltL]) (Ret_of (by cases pE (jfD v key).s.data.toList <;> rfl))

theorem rptrM_c (v : JV) (key : ByteArray) (cs : List AV) (σ : List AO) (hc : vcells v = cs) (hb : v.m.length ≤ 1000000) (hs : (jfD v key).s.size ≤ 1000000) : ACalls Tryd.prog 75 [.agg cs, .str key] σ (Ret (.tup [.sl false 1 (srow (jptN v key)), .bool (jptB v key)]) σ) := by
 refine ACalls_body Tryd.func75 rfl Tryd.ntmps75 (res2 Tryd.results75) (Nat.le_of_ble_eq_true rfl) (fun hcl hal => ?_)
 subst hc
 rw [vcells_eq v]
 refine zw3 ?_
 refine zu2 ?_
 refine zt rfl (zc rfl (rfindQ_c v key _ _ (vcells_eq v) hb)) ?_
 rw [vcells_eq (jfD v key)]
 refine zv6 ?_
 refine AWp_seq ?_
 refine zu3 ?_
 refine zsp 18 rfl (fun h1 => ?_) fun h1 => ?_
 ·rw [h1]; replace h1 := zcl h1
  refine zv4 ?_
  refine AWp_condT rfl ?_
  refine zw2 ?_
  refine AWp_slotLe 4 rfl (AVle.nils false 1) ?_ (by decide)
  refine zrt ?_
  have hp := jpt_no (v := v) (key := key) (.inl (by simpa using h1))
  rw [hp.1, hp.2]
  exact ResQ_2 rfl rfl hcl (by simp [AV.lt, AV.ltL, AV.ltLL]) (Ret_of rfl)
 ·rw [h1]; replace h1 := zcl h1
  refine zv4 ?_
  refine AWp_cond rfl (fun h2 => ?_) (fun h2 => ?_)
  ·(try rw [h2]); replace h2 := zcl h2
   refine zw2 ?_
   refine AWp_slotLe 4 rfl (AVle.nils false 1) ?_ (by decide)
   refine zrt ?_
   have hp := jpt_no (v := v) (key := key) (.inr h2)
   rw [hp.1, hp.2]
   exact ResQ_2 rfl rfl hcl (by simp [AV.lt, AV.ltL, AV.ltLL]) (Ret_of rfl)
  ·(try rw [h2]); replace h2 := zcl h2
   have hp := jpt_yes (key := key) (by simpa using h1) h2
   refine AWp_skip ?_
   refine zu2 ?_
   refine zt rfl (zc rfl (rptrQ_c (jfD v key).s _ hs)) ?_
   refine zv5 ?_
   refine zw5 ?_
   refine zrt ?_
   rw [hp.1, hp.2]
   exact ResQ_2 rfl rfl hcl (by simp [AV.lt, AV.ltL]) (Ret_of (by rw [pEi_lt]))

theorem known_c (s : ByteArray) (σ : List AO) : ACalls Tryd.prog 73 [.str s] σ (Ret (.tup [.int .i64 (opn s), .bool (decide (opn s ≠ 0))]) σ) := by
 refine ACalls_body Tryd.func73 rfl Tryd.ntmps73 (res2 Tryd.results73) (Nat.le_of_ble_eq_true rfl) (fun hcl hal => ?_)
 refine zw2 ?_
 refine AWp_seq ?_
 refine zw1 ?_
 refine AWp_block ?_
 refine zw2 ?_
 refine AWp_cond rfl (fun h1 => ?_) (fun h1 => ?_)
 ·(try rw [h1]); replace h1 := zcl h1
  have hk : opn s = 1 := by rw [h1]; decide +kernel
  refine zw2 ?_
  refine zrt ?_
  rw [hk]; exact ResQ_20 rfl rfl hcl (by simp [AV.lt, AV.ltL]) (Ret_of rfl)
 ·(try rw [h1]); replace h1 := zcl h1
  refine zw2 ?_
  refine AWp_cond rfl (fun h2 => ?_) (fun h2 => ?_)
  ·(try rw [h2]); replace h2 := zcl h2
   have hk : opn s = 2 := by rw [h2]; decide +kernel
   refine zw2 ?_
   refine zrt ?_
   rw [hk]; exact ResQ_20 rfl rfl hcl (by simp [AV.lt, AV.ltL]) (Ret_of rfl)
  ·(try rw [h2]); replace h2 := zcl h2
   refine zw2 ?_
   refine AWp_cond rfl (fun h3 => ?_) (fun h3 => ?_)
   ·(try rw [h3]); replace h3 := zcl h3
    have hk : opn s = 3 := by rw [h3]; decide +kernel
    refine zw2 ?_
    refine zrt ?_
    rw [hk]; exact ResQ_20 rfl rfl hcl (by simp [AV.lt, AV.ltL]) (Ret_of rfl)
   ·(try rw [h3]); replace h3 := zcl h3
    refine zw2 ?_
    refine AWp_cond rfl (fun h4 => ?_) (fun h4 => ?_)
    ·(try rw [h4]); replace h4 := zcl h4
     have hk : opn s = 4 := by rw [h4]; decide +kernel
     refine zw2 ?_
     refine zrt ?_
     rw [hk]; exact ResQ_20 rfl rfl hcl (by simp [AV.lt, AV.ltL]) (Ret_of rfl)
    ·(try rw [h4]); replace h4 := zcl h4
     refine zw2 ?_
     refine AWp_cond rfl (fun h5 => ?_) (fun h5 => ?_)
     ·(try rw [h5]); replace h5 := zcl h5
      have hk : opn s = 5 := by rw [h5]; decide +kernel
      refine zw2 ?_
      refine zrt ?_
      rw [hk]; exact ResQ_20 rfl rfl hcl (by simp [AV.lt, AV.ltL]) (Ret_of rfl)
     ·(try rw [h5]); replace h5 := zcl h5
      refine zw2 ?_
      refine AWp_cond rfl (fun h6 => ?_) (fun h6 => ?_)
      ·(try rw [h6]); replace h6 := zcl h6
       have hk : opn s = 6 := by rw [h6]; decide +kernel
       refine zw2 ?_
       refine zrt ?_
       rw [hk]; exact ResQ_20 rfl rfl hcl (by simp [AV.lt, AV.ltL]) (Ret_of rfl)
      ·(try rw [h6]); replace h6 := zcl h6
       refine AWp_skip ?_
       refine zw2 ?_
       refine zrt ?_
       have hk : opn s = 0 := by simp [opn, opL, *]
       rw [hk]; exact ResQ_20 rfl rfl hcl (by simp [AV.lt, AV.ltL]) (Ret_of rfl)
end Lg
set_option maxRecDepth 20000
set_option maxHeartbeats 4000000
namespace Lg
open Go Go.Proofs Go.RowKit
variable [GLay] [ML]
theorem rop_c (v : JV) (cs : List AV) (σ : List AO) (hc : vcells v = cs) (hjb : jb v) : ACalls Tryd.prog 45 [.agg cs] σ (OpR v σ) := by
 have hmz := ((jb_eq v).1 hjb).2.2.2.1
 have hjp := ((jb_eq _).1 (jfD_jb (key := bPath) hjb)).2.1
 have hjf := ((jb_eq _).1 (jfD_jb (key := bFrom) hjb)).2.1
 refine ACalls_bodyC Tryd.func45 rfl Tryd.ntmps45 (by rw [Tryd.results45]; exact (.ck Tryd.isAgg92 Tryd.sizeOf92 (.t .nil))) (Nat.le_of_ble_eq_true rfl) (fun hcl hal => ?_)
 subst hc
 rw [vcells_eq v]
 refine zw3 ?_
 refine zsr ?_
 refine zt rfl (op_buildSlice [[_], [_], [_], [_], [_], [_], [_]] rfl Tryd.underlying64 Tryd.sizeOf9 Tryd.zeroValue9 rfl (by decide) (by decide) rfl rfl rfl rfl rfl) ?_
 refine zv1 ?_
 refine zw1 ?_
 refine zu1 ?_
 refine zt rfl (zc rfl (rfindQ_c v bOp _ _ (vcells_eq v) hmz)) ?_
 rw [vcells_eq (jfD v bOp)]
 refine zv6 ?_
 refine AWp_seq ?_
 refine zw1 ?_
 refine AWp_block ?_
 -- loop 0 LIVE 1:box 2:alloc 3:assign 4:assign 5:alloc 6:alloc 7:assign 8:assign
 refine AWp_heap (σ' := σ ++ [.box [.int .i64 v.kind, .bool v.b, .bool v.n.neg, .str v.n.digits, .int .i64 v.n.exp, .str v.s, .sl false 8 (lcells v.l), .sl false 9 (mcells v.m)], .box [.int .i64 0, .nils, .nils, .int .i64 0, .bool false, .bool false, .str ⟨#[]⟩, .int .i64 0, .str ⟨#[]⟩, .nils, .nils], .box [.int .i64 (opc v 1), .nils, .nils, .int .i64 0, .bool false, .bool false, .str ⟨#[]⟩, .int .i64 0, .str ⟨#[]⟩, .nils, .nils], .box [.int .i64 (jfD v bOp).kind, .bool (jfD v bOp).b, .bool (jfD v bOp).n.neg, .str (jfD v bOp).n.digits, .int .i64 (jfD v bOp).n.exp, .str (jfD v bOp).s, .sl false 8 (lcells (jfD v bOp).l), .sl false 9 (mcells (jfD v bOp).m)]]) (by rw [opc_1]; rfl) ?_
 refine AWp_loop (ι := Nat) (fun i => 1 ≤ i ∧ i ≤ 7) (fun i => ⟨[], [(1, .ptr (σ.length + 0) 0), (2, .ptr (σ.length + 1) 0), (4, .sl true 1 (opNm.map fun x => [AV.str x])), (5, .ptr (σ.length + 2) 0), (6, .ptr (σ.length + 3) 0), (7, .bool (jfB v bOp)), (8, .int .i64 (i : Int))]⟩) (fun i => σ ++ [.box [.int .i64 v.kind, .bool v.b, .bool v.n.neg, .str v.n.digits, .int .i64 v.n.exp, .str v.s, .sl false 8 (lcells v.l), .sl false 9 (mcells v.m)], .box [.int .i64 0, .nils, .nils, .int .i64 0, .bool false, .bool false, .str ⟨#[]⟩, .int .i64 0, .str ⟨#[]⟩, .nils, .nils], .box [.int .i64 (opc v i), .nils, .nils, .int .i64 0, .bool false, .bool false, .str ⟨#[]⟩, .int .i64 0, .str ⟨#[]⟩, .nils, .nils], .box [.int .i64 (jfD v bOp).kind, .bool (jfD v bOp).b, .bool (jfD v bOp).n.neg, .str (jfD v bOp).n.digits, .int .i64 (jfD v bOp).n.exp, .str (jfD v bOp).s, .sl false 8 (lcells (jfD v bOp).l), .sl false 9 (mcells (jfD v bOp).m)]]) (fun i => 7 - i) (1) (⟨Nat.le_refl _, by decide⟩) ?_ rfl (fun i hi => ?_)
 ·exact ⟨rfl, rfl, rfl, rfl, rfl, rfl, rfl, rfl, trivial⟩
 obtain ⟨hi1, hi7⟩ := hi
 refine AWp_seq ?_
 refine zu3 ?_
 refine zsp 23 rfl (fun h1 => ?_) fun h1 => ?_
 ·rw [h1]; replace h1 := zcl h1
  obtain ⟨t, ht⟩ : ∃ t, opNm[i]? = some t := ⟨_, List.getElem?_eq_getElem (show i < opNm.length from (show i < 7 by omega))⟩
  have htr : (opNm.map fun x => [AV.str x])[i]? = some [.str t] := by rw [List.getElem?_map, ht]; rfl
  refine zv2 ?_
  refine AWp_cond rfl (fun h2 => ?_) (fun h2 => ?_)
  ·(try rw [h2]); replace h2 := zcl h2
   refine AWp_skip ?_
   refine AWp_seq ?_
   refine AWp_block ?_
   refine AWp_seq ?_
   refine AWp_drawL #[0, 1, 3, 7, 15, 31, 15, 15, 207, 463, 1023, 2047] Tryd.mixed (by decide +kernel) (by decide +kernel) ?_
   refine zd1 ?_
   refine zp1 ?_
   refine zd2 ?_
   refine zspr 31 rfl (fun h3 => ?_) fun h3 => ?_
   ·rw [h3]; replace h3 := zcl h3
    refine zd1 ?_
    refine zp1 ?_
    refine zd2 ?_
    refine yAG rfl rfl rfl (fun _ => op_indexAddr rfl Tryd.underlying64 Tryd.sizeOf9 rfl rfl (by omega) (htr)) ?_
    refine zp1 ?_
    refine zd2 ?_
    refine RP.nil rfl ?_
    refine AWp_cond rfl (fun h4 => ?_) (fun h4 => ?_)
    ·(try rw [h4]); replace h4 := zcl h4
     refine AWp_regL ?_
     refine zv3 ?_
     refine AWp_regL ?_
     refine zv3 ?_
     refine ⟨i + 1, σ.length + 4, by omega, by omega, by simp, ⟨rfl, rfl, rfl, rfl, rfl, rfl, rfl, rfl, trivial⟩, closed_own 4 hcl ?_, ?_, ?_⟩
     ·simp [ownLt, AO.cells, AV.ltL, AV.lt]
     ·simp [ltE, AV.lt, AV.ltL, ltLL_str]; (try exact ltLL_str _ _)
     ·rw [opc_hit h2 h3 ht hi1 h4]; exact take_own 4
    ·(try rw [h4]); replace h4 := zcl h4
     refine AWp_skip ?_
     refine AWp_regL ?_
     refine zv3 ?_
     refine ⟨i + 1, σ.length + 4, by omega, by omega, by simp, ⟨rfl, rfl, rfl, rfl, rfl, rfl, rfl, rfl, trivial⟩, closed_own 4 hcl ?_, ?_, ?_⟩
     ·simp [ownLt, AO.cells, AV.ltL, AV.lt]
     ·simp [ltE, AV.lt, AV.ltL, ltLL_str]; (try exact ltLL_str _ _)
     ·rw [opc_miss ht hi1 h4]; exact take_own 4
   ·rw [h3]; replace h3 := zcl h3
    refine zd8 ?_
    refine RP.nil rfl ?_
    refine AWp_condF rfl ?_
    refine AWp_skip ?_
    refine AWp_regL ?_
    refine zv3 ?_
    refine ⟨i + 1, σ.length + 4, by omega, by omega, by simp, ⟨rfl, rfl, rfl, rfl, rfl, rfl, rfl, rfl, trivial⟩, closed_own 4 hcl ?_, ?_, ?_⟩
    ·simp [ownLt, AO.cells, AV.ltL, AV.lt]
    ·simp [ltE, AV.lt, AV.ltL, ltLL_str]; (try exact ltLL_str _ _)
    ·rw [opc_k h3]; exact take_own 4
  ·(try rw [h2]); replace h2 := zcl h2
   refine AWp_exit ?_
   refine AWp_seq ?_
   have hex : opc v i = jopn v := by first | exact opc_no (by simpa using h2) i | (rw [show i = 7 by omega]; exact opc_7 v)
   rw [hex]
   have hor := jopn_range v
   refine AWp_regL ?_
   refine zg1 ?_
   refine zt rfl (zc rfl (rptrM_c v bPath _ _ (vcells_eq v) hmz hjp)) ?_
   refine zv5 ?_
   refine AWp_seq ?_
   refine zu4 ?_
   refine zsp 50 rfl (fun h5 => ?_) fun h5 => ?_
   ·rw [h5]; replace h5 := zcl h5
    refine zv3 ?_
    refine AWp_condT rfl ?_
    refine zw3 ?_
    refine zrt ?_
    refine RQ_ret (rkvs_cons (rkv_ck rfl rfl rfl) (rkvs_cons (rkv_t rfl) rfl)) hcl (by simp [rks, AV.lt, AV.ltL]) ⟨rfl, _, ⟨0, [], [], vz⟩, false, rfl, oz, (fun h => by cases h), fun _ => jop_n1 h5⟩
   ·rw [h5]; replace h5 := zcl h5
    refine zv3 ?_
    refine AWp_cond rfl (fun h6 => ?_) (fun h6 => ?_)
    ·(try rw [h6]); replace h6 := zcl h6
     refine zw3 ?_
     refine zrt ?_
     refine RQ_ret (rkvs_cons (rkv_ck rfl rfl rfl) (rkvs_cons (rkv_t rfl) rfl)) hcl (by simp [rks, AV.lt, AV.ltL]) ⟨rfl, _, ⟨0, [], [], vz⟩, false, rfl, oz, (fun h => by cases h), fun _ => jop_n2 (by simpa using h6)⟩
    ·(try rw [h6]); replace h6 := zcl h6
     refine AWp_skip ?_
     refine zw3 ?_
     refine AWp_seq ?_
     refine zu4 ?_
     refine zsp 60 rfl (fun h7 => ?_) fun h7 => ?_
     ·rw [h7]; replace h7 := zcl h7
      refine zv4 ?_
      refine AWp_condT rfl ?_
      refine zu1 ?_
      refine zt rfl (zc rfl (rptrM_c v bFrom _ _ (vcells_eq v) hmz hjf)) ?_
      refine zv5 ?_
      refine zw3 ?_
      refine zw4 ?_
      refine zrt ?_
      refine RQ_ret (rkvs_cons (rkv_ck rfl rfl rfl) (rkvs_cons (rkv_t rfl) rfl)) hcl (by simp [rks, AV.lt, AV.ltL]) ⟨rfl, _, ⟨jopn v, jptN v bPath, jptN v bFrom, vz⟩, jptB v bFrom, rfl, ?_, ?_, ?_⟩
      ·rw [ocells_eq]; exact ⟨AVle.refl _, AVle.refl _, AVle.refl _, AVle.refl _, AVle.refl _, AVle.refl _, AVle.refl _, AVle.refl _, AVle.refl _, nilL, nilM, trivial⟩
      ·intro h; rw [jop_fr (by simpa using h6) (by omega), if_pos h]
      ·intro h; rw [jop_fr (by simpa using h6) (by omega), if_neg (by rw [h]; decide)]
     ·rw [h7]; replace h7 := zcl h7
      refine zv4 ?_
      refine AWp_cond rfl (fun h8 => ?_) (fun h8 => ?_)
      ·(try rw [h8]); replace h8 := zcl h8
       refine zu1 ?_
       refine zt rfl (zc rfl (rptrM_c v bFrom _ _ (vcells_eq v) hmz hjf)) ?_
       refine zv5 ?_
       refine zw3 ?_
       refine zw4 ?_
       refine zrt ?_
       refine RQ_ret (rkvs_cons (rkv_ck rfl rfl rfl) (rkvs_cons (rkv_t rfl) rfl)) hcl (by simp [rks, AV.lt, AV.ltL]) ⟨rfl, _, ⟨jopn v, jptN v bPath, jptN v bFrom, vz⟩, jptB v bFrom, rfl, ?_, ?_, ?_⟩
       ·rw [ocells_eq]; exact ⟨AVle.refl _, AVle.refl _, AVle.refl _, AVle.refl _, AVle.refl _, AVle.refl _, AVle.refl _, AVle.refl _, AVle.refl _, nilL, nilM, trivial⟩
       ·intro h; rw [jop_fr (by simpa using h6) (by omega), if_pos h]
       ·intro h; rw [jop_fr (by simpa using h6) (by omega), if_neg (by rw [h]; decide)]
      ·(try rw [h8]); replace h8 := zcl h8
       refine AWp_skip ?_
       refine AWp_seq ?_
       refine zw3 ?_
       refine AWp_cond rfl (fun h9 => ?_) (fun h9 => ?_)
       ·(try rw [h9]); replace h9 := zcl h9
        refine zu1 ?_
        refine zt rfl (zc rfl (rfindQ_c v bValue _ _ (vcells_eq v) hmz)) ?_
        rw [vcells_eq (jfD v bValue)]
        refine zv6 ?_
        refine zw3 ?_
        refine zw4 ?_
        refine zrt ?_
        refine RQ_ret (rkvs_cons (rkv_ck rfl rfl rfl) (rkvs_cons (rkv_t rfl) rfl)) hcl (by simp [rks, AV.lt, AV.ltL]) ⟨rfl, _, ⟨jopn v, jptN v bPath, [], jfD v bValue⟩, jfB v bValue, rfl, ?_, ?_, ?_⟩
        ·rw [ocells_eq]; exact ⟨AVle.refl _, AVle.refl _, AVle.nils false 1, AVle.refl _, AVle.refl _, AVle.refl _, AVle.refl _, AVle.refl _, AVle.refl _, AVle.refl _, AVle.refl _, trivial⟩
        ·intro h; rw [jop_vl (by simpa using h6) (by omega) (by omega) (by omega), if_pos h]
        ·intro h; rw [jop_vl (by simpa using h6) (by omega) (by omega) (by omega), if_neg (by rw [h]; decide)]
       ·(try rw [h9]); replace h9 := zcl h9
        refine AWp_skip ?_
        refine zw3 ?_
        refine zrt ?_
        refine RQ_ret (rkvs_cons (rkv_ck rfl rfl rfl) (rkvs_cons (rkv_t rfl) rfl)) hcl (by simp [rks, AV.lt, AV.ltL]) ⟨rfl, _, ⟨jopn v, jptN v bPath, [], vz⟩, true, rfl, ?_, ?_, ?_⟩
        ·rw [ocells_eq]; exact ⟨AVle.refl _, AVle.refl _, AVle.nils false 1, AVle.refl _, AVle.refl _, AVle.refl _, AVle.refl _, AVle.refl _, AVle.refl _, nilL, nilM, trivial⟩
        ·intro _; rw [jop_rm (by simpa using h6) (by omega), show jopn v = 2 by omega]
        ·intro h; cases h
 ·rw [h1]; replace h1 := zcl h1
  refine zv2 ?_
  refine AWp_condF rfl ?_
  refine AWp_exit ?_
  refine AWp_seq ?_
  have hex : opc v i = jopn v := by first | exact opc_no (by simpa using h2) i | (rw [show i = 7 by omega]; exact opc_7 v)
  rw [hex]
  have hor := jopn_range v
  refine AWp_regL ?_
  refine zg1 ?_
  refine zt rfl (zc rfl (rptrM_c v bPath _ _ (vcells_eq v) hmz hjp)) ?_
  refine zv5 ?_
  refine AWp_seq ?_
  refine zu4 ?_
  refine zsp 50 rfl (fun h10 => ?_) fun h10 => ?_
  ·rw [h10]; replace h10 := zcl h10
   refine zv3 ?_
   refine AWp_condT rfl ?_
   refine zw3 ?_
   refine zrt ?_
   refine RQ_ret (rkvs_cons (rkv_ck rfl rfl rfl) (rkvs_cons (rkv_t rfl) rfl)) hcl (by simp [rks, AV.lt, AV.ltL]) ⟨rfl, _, ⟨0, [], [], vz⟩, false, rfl, oz, (fun h => by cases h), fun _ => jop_n1 h10⟩
  ·rw [h10]; replace h10 := zcl h10
   refine zv3 ?_
   refine AWp_cond rfl (fun h11 => ?_) (fun h11 => ?_)
   ·(try rw [h11]); replace h11 := zcl h11
    refine zw3 ?_
    refine zrt ?_
    refine RQ_ret (rkvs_cons (rkv_ck rfl rfl rfl) (rkvs_cons (rkv_t rfl) rfl)) hcl (by simp [rks, AV.lt, AV.ltL]) ⟨rfl, _, ⟨0, [], [], vz⟩, false, rfl, oz, (fun h => by cases h), fun _ => jop_n2 (by simpa using h11)⟩
   ·(try rw [h11]); replace h11 := zcl h11
    refine AWp_skip ?_
    refine zw3 ?_
    refine AWp_seq ?_
    refine zu4 ?_
    refine zsp 60 rfl (fun h12 => ?_) fun h12 => ?_
    ·rw [h12]; replace h12 := zcl h12
     refine zv4 ?_
     refine AWp_condT rfl ?_
     refine zu1 ?_
     refine zt rfl (zc rfl (rptrM_c v bFrom _ _ (vcells_eq v) hmz hjf)) ?_
     refine zv5 ?_
     refine zw3 ?_
     refine zw4 ?_
     refine zrt ?_
     refine RQ_ret (rkvs_cons (rkv_ck rfl rfl rfl) (rkvs_cons (rkv_t rfl) rfl)) hcl (by simp [rks, AV.lt, AV.ltL]) ⟨rfl, _, ⟨jopn v, jptN v bPath, jptN v bFrom, vz⟩, jptB v bFrom, rfl, ?_, ?_, ?_⟩
     ·rw [ocells_eq]; exact ⟨AVle.refl _, AVle.refl _, AVle.refl _, AVle.refl _, AVle.refl _, AVle.refl _, AVle.refl _, AVle.refl _, AVle.refl _, nilL, nilM, trivial⟩
     ·intro h; rw [jop_fr (by simpa using h11) (by omega), if_pos h]
     ·intro h; rw [jop_fr (by simpa using h11) (by omega), if_neg (by rw [h]; decide)]
    ·rw [h12]; replace h12 := zcl h12
     refine zv4 ?_
     refine AWp_cond rfl (fun h13 => ?_) (fun h13 => ?_)
     ·(try rw [h13]); replace h13 := zcl h13
      refine zu1 ?_
      refine zt rfl (zc rfl (rptrM_c v bFrom _ _ (vcells_eq v) hmz hjf)) ?_
      refine zv5 ?_
      refine zw3 ?_
      refine zw4 ?_
      refine zrt ?_
      refine RQ_ret (rkvs_cons (rkv_ck rfl rfl rfl) (rkvs_cons (rkv_t rfl) rfl)) hcl (by simp [rks, AV.lt, AV.ltL]) ⟨rfl, _, ⟨jopn v, jptN v bPath, jptN v bFrom, vz⟩, jptB v bFrom, rfl, ?_, ?_, ?_⟩
      ·rw [ocells_eq]; exact ⟨AVle.refl _, AVle.refl _, AVle.refl _, AVle.refl _, AVle.refl _, AVle.refl _, AVle.refl _, AVle.refl _, AVle.refl _, nilL, nilM, trivial⟩
      ·intro h; rw [jop_fr (by simpa using h11) (by omega), if_pos h]
      ·intro h; rw [jop_fr (by simpa using h11) (by omega), if_neg (by rw [h]; decide)]
     ·(try rw [h13]); replace h13 := zcl h13
      refine AWp_skip ?_
      refine AWp_seq ?_
      refine zw3 ?_
      refine AWp_cond rfl (fun h14 => ?_) (fun h14 => ?_)
      ·(try rw [h14]); replace h14 := zcl h14
       refine zu1 ?_
       refine zt rfl (zc rfl (rfindQ_c v bValue _ _ (vcells_eq v) hmz)) ?_
       rw [vcells_eq (jfD v bValue)]
       refine zv6 ?_
       refine zw3 ?_
       refine zw4 ?_
       refine zrt ?_
       refine RQ_ret (rkvs_cons (rkv_ck rfl rfl rfl) (rkvs_cons (rkv_t rfl) rfl)) hcl (by simp [rks, AV.lt, AV.ltL]) ⟨rfl, _, ⟨jopn v, jptN v bPath, [], jfD v bValue⟩, jfB v bValue, rfl, ?_, ?_, ?_⟩
       ·rw [ocells_eq]; exact ⟨AVle.refl _, AVle.refl _, AVle.nils false 1, AVle.refl _, AVle.refl _, AVle.refl _, AVle.refl _, AVle.refl _, AVle.refl _, AVle.refl _, AVle.refl _, trivial⟩
       ·intro h; rw [jop_vl (by simpa using h11) (by omega) (by omega) (by omega), if_pos h]
       ·intro h; rw [jop_vl (by simpa using h11) (by omega) (by omega) (by omega), if_neg (by rw [h]; decide)]
      ·(try rw [h14]); replace h14 := zcl h14
       refine AWp_skip ?_
       refine zw3 ?_
       refine zrt ?_
       refine RQ_ret (rkvs_cons (rkv_ck rfl rfl rfl) (rkvs_cons (rkv_t rfl) rfl)) hcl (by simp [rks, AV.lt, AV.ltL]) ⟨rfl, _, ⟨jopn v, jptN v bPath, [], vz⟩, true, rfl, ?_, ?_, ?_⟩
       ·rw [ocells_eq]; exact ⟨AVle.refl _, AVle.refl _, AVle.nils false 1, AVle.refl _, AVle.refl _, AVle.refl _, AVle.refl _, AVle.refl _, AVle.refl _, nilL, nilM, trivial⟩
       ·intro _; rw [jop_rm (by simpa using h11) (by omega), show jopn v = 2 by omega]
       ·intro h; cases h
end Lg
set_option maxRecDepth 20000
set_option maxHeartbeats 4000000
namespace Lg
open Go Go.Proofs Go.RowKit
variable [GLay] [ML]
theorem redit_0 (op : Int) (x : JV) (xs : List AV) (hxs : vcells x = xs) (f : Bool) (v : JV) (cs : List AV) (σ : List AO) (hc : vcells v = cs) : ACalls Tryd.prog 24 [.int .i64 op, .agg cs, .sl f 1 (srow []), .agg xs] σ (Ret (.tup [.agg (vcells (jed op x [] v).1), .int .i64 (jed op x [] v).2]) σ) := by
 refine ACalls_bodyC Tryd.func24 rfl Tryd.ntmps24 (by rw [Tryd.results24]; exact (.ck Tryd.isAgg28 Tryd.sizeOf28 (.t .nil))) (Nat.le_of_ble_eq_true rfl) (fun hcl hal => ?_)
 subst hc
 subst hxs
 rw [vcells_eq v, vcells_eq x]
 refine zw4 ?_
 refine AWp_seq ?_
 refine zu2 ?_
 refine zt rfl (op_eqlT rfl rfl rfl rfl) ?_
 refine zon ?_
 refine AWp_condT rfl ?_
 refine AWp_seq ?_
 refine zw2 ?_
 refine AWp_cond rfl (fun h1 => ?_) (fun h1 => ?_)
 ·(try rw [h1]); replace h1 := zcl h1
  refine zw3 ?_
  refine AWp_boxLeO 2 (bs' := [.int .i64 vz.kind, .bool vz.b, .bool vz.n.neg, .str vz.n.digits, .int .i64 vz.n.exp, .str vz.s, .sl false 8 (lcells vz.l), .sl false 9 (mcells vz.m)]) rfl ⟨AVle.refl _, AVle.refl _, AVle.refl _, AVle.refl _, AVle.refl _, AVle.refl _, nilL, nilM, trivial⟩ ?_
  refine zrt ?_
  subst h1
  rw [jed_nil2, vcells_eq]
  exact RQ_ret (rkvs_cons (rkv_ck rfl rfl rfl) (rkvs_cons (rkv_t rfl) rfl)) hcl (by simp [rks, AV.lt, AV.ltL]) ⟨rfl, rfl⟩
 ·(try rw [h1]); replace h1 := zcl h1
  refine AWp_skip ?_
  refine zw3 ?_
  refine zrt ?_
  rw [jed_nil h1, vcells_eq x]
  exact RQ_ret (rkvs_cons (rkv_ck rfl rfl rfl) (rkvs_cons (rkv_t rfl) rfl)) hcl (by simp [rks, AV.lt, AV.ltL]) ⟨rfl, rfl⟩

theorem redit_4 (op : Int) (x : JV) (xs : List AV) (hxs : vcells x = xs) (r : List BL) (ih : ∀ (v : JV) (cs : List AV) (es : List (List AV)) (σ : List AO), vcells v = cs → es = srow r → jb v → ACalls Tryd.prog 24 [.int .i64 op, .agg cs, .sl false 1 es, .agg xs] σ (Ret (.tup [.agg (vcells (jed op x r v).1), .int .i64 (jed op x r v).2]) σ)) (f : Bool) (nm : BL) (v : JV) (cs : List AV) (σ : List AO) (hc : vcells v = cs) (hjb : jb v) (hop : 1 ≤ op ∧ op ≤ 3) (hnm : nm.length ≤ 1000000) (hk4 : v.kind = 4) : ACalls Tryd.prog 24 [.int .i64 op, .agg cs, .sl f 1 (srow (nm :: r)), .agg xs] σ (Ret (.tup [.agg (vcells (jed op x (nm :: r) v).1), .int .i64 (jed op x (nm :: r) v).2]) σ) := by
 refine ACalls_bodyC Tryd.func24 rfl Tryd.ntmps24 (by rw [Tryd.results24]; exact (.ck Tryd.isAgg28 Tryd.sizeOf28 (.t .nil))) (Nat.le_of_ble_eq_true rfl) (fun hcl hal => ?_)
 subst hc
 obtain ⟨last, hlast⟩ : ∃ b, r.isEmpty = b := ⟨_, rfl⟩
 have hls : decide ((((srow (nm :: r)).length : Nat) : Int) = 1) = last := by rw [← hlast, srow_len, List.length_cons]; cases r <;> simp <;> omega
 obtain ⟨hb1, hb2, hb3, hb4, hb5, hb6⟩ := (jb_eq v).1 hjb
 have hll := lcells_length v.l
 have hml := mcells_length v.m
 have hsl : 1 ≤ (srow (nm :: r)).length := by rw [srow_len, List.length_cons]; omega
 rw [vcells_eq v, ← hxs, vcells_eq x]
 rw [← hxs, vcells_eq x] at ih
 have hix : ∀ (e : Bool) (τ : List AO), e = (decide (op = 1) && last) → ACalls Tryd.prog 48 [.str (ba nm), .int .i64 ((lcells v.l).length : Int), .bool e] τ (Ret (.tup [.int .i64 (jeK op nm last v), .bool (jeO op nm last v)]) τ) := by
  intro e τ he; subst he; rw [hll]; exact ridx_c nm v.l.length _ τ hnm (by omega)
 refine zw4 ?_
 refine AWp_seq ?_
 refine zu2 ?_
 refine zt rfl (op_eqlF rfl rfl rfl (by rw [srow_len, List.length_cons]; omega)) ?_
 refine zon ?_
 refine AWp_condF rfl ?_
 refine AWp_skip ?_
 refine zw3 ?_
 refine zw2 ?_
 refine zw2 ?_
 refine zu3 ?_
 rw [hls]
 refine zv1 ?_
 refine AWp_seq ?_
 refine zw3 ?_
 refine AWp_cond rfl (fun h1 => ?_) (fun h1 => ?_)
 ·(try rw [h1]); replace h1 := zcl h1
  refine AWp_join (ι := Unit) (fun z => True) (fun z => ⟨[], [(0, .int .i64 op), (2, .sl f 1 (srow (nm :: r))), (5, .ptr (σ.length + 0) 0), (7, .ptr (σ.length + 1) 0), (8, .ptr (σ.length + 2) 0), (9, .int .i64 0), (10, .ptr (σ.length + 3) 0), (11, .bool last), (12, .int .i64 (jeK op nm last v)), (13, .bool (jeO op nm last v))]⟩) (fun z => σ ++ [.box [.int .i64 v.kind, .bool v.b, .bool v.n.neg, .str v.n.digits, .int .i64 v.n.exp, .str v.s, .sl false 8 (lcells v.l), .sl false 9 (mcells v.m)], .box [.int .i64 x.kind, .bool x.b, .bool x.n.neg, .str x.n.digits, .int .i64 x.n.exp, .str x.s, .sl false 8 (lcells x.l), .sl false 9 (mcells x.m)], .box [.int .i64 0, .bool false, .bool false, .str ⟨#[]⟩, .int .i64 0, .str ⟨#[]⟩, .nils, .nils], .box [.int .i64 v.kind, .bool v.b, .bool v.n.neg, .str v.n.digits, .int .i64 v.n.exp, .str v.s, .nils, .nils]]) ?_ (fun z hj => ?_)
  ·skip
   refine AWp_drawL #[0, 1, 3, 0, 8, 24, 0, 64, 192, 448, 960, 2047, 4095, 8191, 8191, 16383, 65535] Tryd.mixed (by decide +kernel) (by decide +kernel) ?_
   refine zd1 ?_
   refine yA rfl rfl (fun _ => op_indexAddr rfl Tryd.underlying64 Tryd.sizeOf9 rfl rfl (by omega) (rfl)) ?_
   refine zp1 ?_
   refine zd1 ?_
   refine zp1 ?_
   refine zd4 ?_
   refine zspr 50 rfl (fun h2 => ?_) fun h2 => ?_
   ·rw [h2]; replace h2 := zcl h2
    have he : last = (decide (op = 1) && last) := by simp [h2]
    refine zd2 ?_
    refine yP rfl rfl (zc rfl (hix _ _ he)) (trivial) ?_
    refine zd5 ?_
    refine RP.nil rfl ?_
    exact ⟨(), trivial, ⟨rfl, rfl, rfl, rfl, rfl, rfl, rfl, rfl, rfl, rfl, rfl, trivial⟩, rfl⟩
   ·rw [h2]; replace h2 := zcl h2
    have he : false = (decide (op = 1) && last) := by simp [h2]
    refine zd2 ?_
    refine yP rfl rfl (zc rfl (hix _ _ he)) (trivial) ?_
    refine zd5 ?_
    refine RP.nil rfl ?_
    exact ⟨(), trivial, ⟨rfl, rfl, rfl, rfl, rfl, rfl, rfl, rfl, rfl, rfl, rfl, trivial⟩, rfl⟩
  ·skip
   obtain ⟨k, hk, hkn⟩ := jeK_nat (op := op) (nm := nm) (last := last) (v := v)
   rw [hk]
   refine AWp_seq ?_
   refine zw2 ?_
   refine AWp_cond rfl (fun h3 => ?_) (fun h3 => ?_)
   ·(try rw [h3]); replace h3 := zcl h3
    refine zw3 ?_
    refine AWp_boxLeO 2 (bs' := [.int .i64 vz.kind, .bool vz.b, .bool vz.n.neg, .str vz.n.digits, .int .i64 vz.n.exp, .str vz.s, .sl false 8 (lcells vz.l), .sl false 9 (mcells vz.m)]) rfl ⟨AVle.refl _, AVle.refl _, AVle.refl _, AVle.refl _, AVle.refl _, AVle.refl _, nilL, nilM, trivial⟩ ?_
    refine zrt ?_
    rw [jedA_no hlast hk4 (by simpa using h3), vcells_eq]
    exact RQ_ret (rkvs_cons (rkv_ck rfl rfl rfl) (rkvs_cons (rkv_t rfl) rfl)) hcl (by simp [rks, AV.lt, AV.ltL]) ⟨rfl, rfl⟩
   ·(try rw [h3]); replace h3 := zcl h3
    refine AWp_skip ?_
    refine AWp_seq ?_
    refine AWp_seq ?_
    refine AWp_boxLeO 3 (bs' := [.int .i64 v.kind, .bool v.b, .bool v.n.neg, .str v.n.digits, .int .i64 v.n.exp, .str v.s, .nils, .sl false 9 (mcells [])]) rfl ⟨AVle.refl _, AVle.refl _, AVle.refl _, AVle.refl _, AVle.refl _, AVle.refl _, AVle.refl _, nilM, trivial⟩ ?_
    refine AWp_ghostInO 3 6 8 4 rfl rfl rfl ?_
    have hko : jeO op nm last v = true := by simpa using h3
    have hkn := hkn hko
    refine AWp_regL ?_
    refine zv1 ?_
    refine AWp_block ?_
    -- loop 0 LIVE 0:param 2:param 5:box 7:box 8:alloc 9:assign 10:alloc 11:assign 12:assign 14:assign
    refine AWp_loop (ι := Nat) (fun i => i ≤ v.l.length + 1 ∧ (last = false → k < i → (jed op x r (v.l.getD k vz)).2 = 0)) (fun i => ⟨[], [(0, .int .i64 op), (2, .sl f 1 (srow (nm :: r))), (5, .ptr (σ.length + 0) 0), (7, .ptr (σ.length + 1) 0), (8, .ptr (σ.length + 2) 0), (9, .int .i64 0), (10, .ptr (σ.length + 3) 0), (11, .bool last), (12, .int .i64 (k : Int)), (14, .int .i64 (i : Int))]⟩) (fun i => σ ++ [.box [.int .i64 v.kind, .bool v.b, .bool v.n.neg, .str v.n.digits, .int .i64 v.n.exp, .str v.s, .sl false 8 (lcells v.l), .sl false 9 (mcells v.m)], .box [.int .i64 x.kind, .bool x.b, .bool x.n.neg, .str x.n.digits, .int .i64 x.n.exp, .str x.s, .sl false 8 (lcells x.l), .sl false 9 (mcells x.m)], .box [.int .i64 0, .bool false, .bool false, .str ⟨#[]⟩, .int .i64 0, .str ⟨#[]⟩, .nils, .nils], .box [.int .i64 v.kind, .bool v.b, .bool v.n.neg, .str v.n.digits, .int .i64 v.n.exp, .str v.s, .arr (σ.length + 4) (eA last op k x (jed op x r (v.l.getD k vz)).1 v.l i).length 8 0 (eA last op k x (jed op x r (v.l.getD k vz)).1 v.l i).length, .sl false 9 (mcells [])], .arr 8 (eA last op k x (jed op x r (v.l.getD k vz)).1 v.l i).length (lcells (eA last op k x (jed op x r (v.l.getD k vz)).1 v.l i)).flatten]) (fun i => v.l.length + 1 - i) (0) (⟨Nat.zero_le _, fun _ h => by omega⟩) ?_ rfl (fun i hi => ?_)
    ·exact ⟨rfl, rfl, rfl, rfl, rfl, rfl, rfl, rfl, rfl, rfl, rfl, trivial⟩
    obtain ⟨hi1, hi2⟩ := hi
    have hea := eA_bd (last := last) (op := op) (k := k) (x := x) (y := (jed op x r (v.l.getD k vz)).1) (l := v.l) i
    have hei := eIns_bd (last := last) (op := op) (k := k) (x := x) (i := i)
    have heb : ((eA last op k x (jed op x r (v.l.getD k vz)).1 v.l i) ++ (eIns last op k x i)).length = (eA last op k x (jed op x r (v.l.getD k vz)).1 v.l i).length + (eIns last op k x i).length := List.length_append
    refine AWp_seq ?_
    refine zw5 ?_
    refine AWp_cond rfl (fun h4 => ?_) (fun h4 => ?_)
    ·(try rw [h4]); replace h4 := zcl h4
     refine AWp_skip ?_
     refine AWp_seq ?_
     refine AWp_block ?_
     refine AWp_join (ι := Unit) (fun b => True) (fun b => ⟨[], [(0, .int .i64 op), (2, .sl f 1 (srow (nm :: r))), (5, .ptr (σ.length + 0) 0), (7, .ptr (σ.length + 1) 0), (8, .ptr (σ.length + 2) 0), (9, .int .i64 0), (10, .ptr (σ.length + 3) 0), (11, .bool last), (12, .int .i64 (k : Int)), (14, .int .i64 (i : Int))]⟩) (fun b => σ ++ [.box [.int .i64 v.kind, .bool v.b, .bool v.n.neg, .str v.n.digits, .int .i64 v.n.exp, .str v.s, .sl false 8 (lcells v.l), .sl false 9 (mcells v.m)], .box [.int .i64 x.kind, .bool x.b, .bool x.n.neg, .str x.n.digits, .int .i64 x.n.exp, .str x.s, .sl false 8 (lcells x.l), .sl false 9 (mcells x.m)], .box [.int .i64 0, .bool false, .bool false, .str ⟨#[]⟩, .int .i64 0, .str ⟨#[]⟩, .nils, .nils], .box [.int .i64 v.kind, .bool v.b, .bool v.n.neg, .str v.n.digits, .int .i64 v.n.exp, .str v.s, .arr (σ.length + 4) ((eA last op k x (jed op x r (v.l.getD k vz)).1 v.l i) ++ (eIns last op k x i)).length 8 0 ((eA last op k x (jed op x r (v.l.getD k vz)).1 v.l i) ++ (eIns last op k x i)).length, .sl false 9 (mcells [])], .arr 8 ((eA last op k x (jed op x r (v.l.getD k vz)).1 v.l i) ++ (eIns last op k x i)).length (lcells ((eA last op k x (jed op x r (v.l.getD k vz)).1 v.l i) ++ (eIns last op k x i))).flatten]) ?_ (fun b hj => ?_)
     ·skip
      refine zu4 ?_
      refine zsp 69 rfl (fun h5 => ?_) fun h5 => ?_
      ·rw [h5]; replace h5 := zcl h5
       refine zg3 ?_
       refine zsp 72 rfl (fun h6 => ?_) fun h6 => ?_
       ·rw [h6]; replace h6 := zcl h6
        subst h6
        refine zv3 ?_
        refine AWp_cond rfl (fun h7 => ?_) (fun h7 => ?_)
        ·(try rw [h7]); replace h7 := zcl h7
         refine AWp_regL ?_
         refine zg3 ?_
         refine zt rfl (op_buildSlice [[_, _, _, _, _, _, _, _]] rfl Tryd.underlying25 Tryd.sizeOf28 Tryd.zeroValue28 rfl (by decide) (by decide) rfl rfl rfl rfl rfl) ?_
         refine zt rfl (op_appendArrT rfl 4 (sz := 8) (m := 1) (len := (eA true op k x (jed op x r (v.l.getD k vz)).1 v.l i).length) (cs := _) rfl (.inr ⟨_, rfl⟩) Tryd.underlying25 Tryd.underlying25 Tryd.type28 rfl rfl rfl (by decide) rfl rfl (lflat_len _).symm rfl rfl rfl (by show ((eA true op k x (jed op x r (v.l.getD k vz)).1 v.l i).length + 1) * 112 ≤ _; omega) (by omega) rfl) ?_
         refine zg1 ?_
         refine ztN rfl rfl (op_storeO (r := [.int .i64 v.kind, .bool v.b, .bool v.n.neg, .str v.n.digits, .int .i64 v.n.exp, .str v.s, .arr (σ.length + 4) ((eA true op k x (jed op x r (v.l.getD k vz)).1 v.l i).length + 1) 8 0 ((eA true op k x (jed op x r (v.l.getD k vz)).1 v.l i).length + 1), .sl false 9 (mcells [])]) rfl Tryd.sizeOf25 rfl rfl rfl rfl rfl (by decide)) ?_
         refine zon ?_
         have hin := eIns_y (x := x) (last := true) (op := op) (k := k) (i := i) ⟨by omega, rfl, by omega⟩
         refine ⟨(), trivial, ⟨rfl, rfl, rfl, rfl, rfl, rfl, rfl, rfl, rfl, rfl, rfl, trivial⟩, ?_⟩
         rw [hin, lcells_snoc, List.length_append, vcells_eq x]; rfl
        ·(try rw [h7]); replace h7 := zcl h7
         refine AWp_skip ?_
         have hin := eIns_n (x := x) (last := true) (op := op) (k := k) (i := i) (fun z => by have := z.2.2; omega)
         refine ⟨(), trivial, ⟨rfl, rfl, rfl, rfl, rfl, rfl, rfl, rfl, rfl, rfl, rfl, trivial⟩, ?_⟩
         rw [hin, List.append_nil]
       ·rw [h6]; replace h6 := zcl h6
        subst h6
        refine zv3 ?_
        refine AWp_condF rfl ?_
        refine AWp_skip ?_
        have hin := eIns_n (x := x) (last := false) (op := op) (k := k) (i := i) (fun z => by cases z.2.1)
        refine ⟨(), trivial, ⟨rfl, rfl, rfl, rfl, rfl, rfl, rfl, rfl, rfl, rfl, rfl, trivial⟩, ?_⟩
        rw [hin, List.append_nil]
      ·rw [h5]; replace h5 := zcl h5
       refine zv6 ?_
       refine AWp_condF rfl ?_
       refine AWp_skip ?_
       have hin := eIns_n (x := x) (last := last) (op := op) (k := k) (i := i) (fun z => by have := z.1; omega)
       refine ⟨(), trivial, ⟨rfl, rfl, rfl, rfl, rfl, rfl, rfl, rfl, rfl, rfl, rfl, trivial⟩, ?_⟩
       rw [hin, List.append_nil]
     ·skip
      refine AWp_join (ι := Unit) (fun b => i < v.l.length ∧ ¬ (i = k ∧ last = true ∧ ¬ op = 1)) (fun b => ⟨[], [(0, .int .i64 op), (2, .sl f 1 (srow (nm :: r))), (5, .ptr (σ.length + 0) 0), (7, .ptr (σ.length + 1) 0), (8, .ptr (σ.length + 2) 0), (9, .int .i64 0), (10, .ptr (σ.length + 3) 0), (11, .bool last), (12, .int .i64 (k : Int)), (14, .int .i64 (i : Int))]⟩) (fun b => σ ++ [.box [.int .i64 v.kind, .bool v.b, .bool v.n.neg, .str v.n.digits, .int .i64 v.n.exp, .str v.s, .sl false 8 (lcells v.l), .sl false 9 (mcells v.m)], .box [.int .i64 x.kind, .bool x.b, .bool x.n.neg, .str x.n.digits, .int .i64 x.n.exp, .str x.s, .sl false 8 (lcells x.l), .sl false 9 (mcells x.m)], .box [.int .i64 0, .bool false, .bool false, .str ⟨#[]⟩, .int .i64 0, .str ⟨#[]⟩, .nils, .nils], .box [.int .i64 v.kind, .bool v.b, .bool v.n.neg, .str v.n.digits, .int .i64 v.n.exp, .str v.s, .arr (σ.length + 4) ((eA last op k x (jed op x r (v.l.getD k vz)).1 v.l i) ++ (eIns last op k x i)).length 8 0 ((eA last op k x (jed op x r (v.l.getD k vz)).1 v.l i) ++ (eIns last op k x i)).length, .sl false 9 (mcells [])], .arr 8 ((eA last op k x (jed op x r (v.l.getD k vz)).1 v.l i) ++ (eIns last op k x i)).length (lcells ((eA last op k x (jed op x r (v.l.getD k vz)).1 v.l i) ++ (eIns last op k x i))).flatten]) ?_ (fun b hj => ?_)
      ·skip
       refine zu6 ?_
       refine zsp 87 rfl (fun h8 => ?_) fun h8 => ?_
       ·rw [h8]; replace h8 := zcl h8
        refine zg10 ?_
        refine zg1 ?_
        refine zon ?_
        refine AWp_condT rfl ?_
        refine AWp_exit ?_
        refine AWp_regL ?_
        refine zv3 ?_
        have hE1 : (eA last op k x (jed op x r (v.l.getD k vz)).1 v.l (i + 1)) = ((eA last op k x (jed op x r (v.l.getD k vz)).1 v.l i) ++ (eIns last op k x i)) := by rw [eA, eOld_end (List.getElem?_eq_none (by omega)), List.append_nil]
        refine ⟨i + 1, σ.length + 5, ⟨by omega, fun hl hlt => hi2 hl (by have := hkn.2 hl; omega)⟩, by omega, by simp, ⟨rfl, rfl, rfl, rfl, rfl, rfl, rfl, rfl, rfl, rfl, rfl, trivial⟩, closed_own 5 hcl ?_, ?_, ?_⟩
        ·simp [ownLt, AO.cells, AV.ltL, AV.lt, ltL_append, lflat_lt]
        ·simp [ltE, AV.lt, AV.ltL]
        ·refine (take_own 5).trans ?_
         rw [hE1]; rfl
       ·rw [h8]; replace h8 := zcl h8
        refine zg4 ?_
        refine zsp 91 rfl (fun h9 => ?_) fun h9 => ?_
        ·rw [h9]; replace h9 := zcl h9
         refine zg3 ?_
         refine zsp 94 rfl (fun h10 => ?_) fun h10 => ?_
         ·rw [h10]; replace h10 := zcl h10
          subst h10
          refine zv4 ?_
          refine AWp_cond rfl (fun h11 => ?_) (fun h11 => ?_)
          ·(try rw [h11]); replace h11 := zcl h11
           refine AWp_exit ?_
           refine AWp_regL ?_
           refine zv3 ?_
           have hE1 : (eA true op k x (jed op x r (v.l.getD k vz)).1 v.l (i + 1)) = ((eA true op k x (jed op x r (v.l.getD k vz)).1 v.l i) ++ (eIns true op k x i)) := by rw [eA, eOld_del (by omega) rfl (by omega), List.append_nil]
           refine ⟨i + 1, σ.length + 5, ⟨by omega, fun hl => by cases hl⟩, by omega, by simp, ⟨rfl, rfl, rfl, rfl, rfl, rfl, rfl, rfl, rfl, rfl, rfl, trivial⟩, closed_own 5 hcl ?_, ?_, ?_⟩
           ·simp [ownLt, AO.cells, AV.ltL, AV.lt, ltL_append, lflat_lt]
           ·simp [ltE, AV.lt, AV.ltL]
           ·refine (take_own 5).trans ?_
            rw [hE1]; rfl
          ·(try rw [h11]); replace h11 := zcl h11
           refine AWp_skip ?_
           refine ⟨(), ⟨by omega, ?_⟩, ⟨rfl, rfl, rfl, rfl, rfl, rfl, rfl, rfl, rfl, rfl, rfl, trivial⟩, rfl⟩
           rintro ⟨_, _, h⟩; omega
         ·rw [h10]; replace h10 := zcl h10
          subst h10
          refine zv4 ?_
          refine AWp_condF rfl ?_
          refine AWp_skip ?_
          refine ⟨(), ⟨by omega, ?_⟩, ⟨rfl, rfl, rfl, rfl, rfl, rfl, rfl, rfl, rfl, rfl, rfl, trivial⟩, rfl⟩
          rintro ⟨_, h, _⟩; cases h
        ·rw [h9]; replace h9 := zcl h9
         refine zv7 ?_
         refine AWp_condF rfl ?_
         refine AWp_skip ?_
         refine ⟨(), ⟨by omega, ?_⟩, ⟨rfl, rfl, rfl, rfl, rfl, rfl, rfl, rfl, rfl, rfl, rfl, trivial⟩, rfl⟩
         rintro ⟨h, _, _⟩; omega
      ·skip
       obtain ⟨hj1, hj2⟩ := hj
       obtain ⟨a, hx⟩ : ∃ a, v.l[i]? = some a := ⟨_, List.getElem?_eq_getElem hj1⟩
       refine zu4 ?_
       rw [vcells_eq a]
       refine zv3 ?_
       refine AWp_seq ?_
       refine zu4 ?_
       refine zsp 107 rfl (fun h12 => ?_) fun h12 => ?_
       ·rw [h12]; replace h12 := zcl h12
        have hik : i = k := by omega
        have hka : v.l[k]? = some a := by rw [← hik]; exact hx
        have hgd : v.l.getD k vz = a := by rw [List.getD_eq_getElem?_getD, hka]; rfl
        refine zv3 ?_
        refine AWp_cond rfl (fun h13 => ?_) (fun h13 => ?_)
        ·(try rw [h13]); replace h13 := zcl h13
         have hlf : last = false := by simpa using h13
         refine AWp_seq ?_
         refine AWp_drawL #[0, 0, 0, 4, 0, 31, 63, 127, 127, 0, 767, 2047] Tryd.mixed (by decide +kernel) (by decide +kernel) ?_
         refine zd1 ?_
         refine zp1 ?_
         refine zd1 ?_
         refine yA rfl rfl (fun _ => (by first | exact op_sliceSl _ _ rfl Tryd.underlying64 Tryd.sizeOf9 rfl (by first | exact ⟨_, rfl⟩ | rfl) (by first | exact ⟨_, rfl⟩ | rfl) (by omega) (by omega) (by omega) | exact op_sliceArr _ _ rfl Tryd.underlying64 Tryd.sizeOf9 rfl GET (by first | exact ⟨_, rfl⟩ | rfl) (by first | exact ⟨_, rfl⟩ | rfl) (by omega) (by omega) (by omega))) ?_
         refine zp1 ?_
         refine yP rfl rfl (zc rfl (ih a _ _ _ (vcells_eq a) (srow_tail nm r) (lb_get hb5 hx))) (trivial) ?_
         rw [vcells_eq (jed op x r a).1]
         refine zd3 ?_
         refine yE rfl rfl (zoa) (⟨.inr (by rw [← vcells_eq (jed op x r a).1]; exact zc rfl (ih a _ _ _ (vcells_eq a) (srow_tail nm r) (lb_get hb5 hx))), ⟨.inr zoa, ⟨.inr zoa, trivial⟩⟩⟩) (trivial) ?_
         refine yEN rfl rfl rfl (zoa) (⟨.inl rfl, ⟨.inl rfl, ⟨.inl rfl, trivial⟩⟩⟩) (⟨rfl, trivial⟩) ?_
         refine zd1 ?_
         refine RP.nil rfl ?_
         refine AWp_seq ?_
         refine zw2 ?_
         refine AWp_cond rfl (fun h14 => ?_) (fun h14 => ?_)
         ·(try rw [h14]); replace h14 := zcl h14
          refine zw4 ?_
          refine AWp_boxLeO 2 (bs' := [.int .i64 vz.kind, .bool vz.b, .bool vz.n.neg, .str vz.n.digits, .int .i64 vz.n.exp, .str vz.s, .sl false 8 (lcells vz.l), .sl false 9 (mcells vz.m)]) rfl ⟨AVle.refl _, AVle.refl _, AVle.refl _, AVle.refl _, AVle.refl _, AVle.refl _, nilL, nilM, trivial⟩ ?_
          refine zrt ?_
          rw [jedA_bad hlast hk4 hk hko hlf hka h14, vcells_eq]
          exact RQ_ret (rkvs_cons (rkv_ck rfl rfl rfl) (rkvs_cons (rkv_t rfl) rfl)) hcl (by simp [rks, AV.lt, AV.ltL]) ⟨rfl, rfl⟩
         ·(try rw [h14]); replace h14 := zcl h14
          refine AWp_skip ?_
          refine AWp_regL ?_
          refine zv2 ?_
          refine AWp_regL ?_
          refine zg3 ?_
          refine zt rfl (op_buildSlice [[_, _, _, _, _, _, _, _]] rfl Tryd.underlying25 Tryd.sizeOf28 Tryd.zeroValue28 rfl (by decide) (by decide) rfl rfl rfl rfl rfl) ?_
          refine zt rfl (op_appendArrT rfl 4 (sz := 8) (m := 1) (len := ((eA last op k x (jed op x r (v.l.getD k vz)).1 v.l i) ++ (eIns last op k x i)).length) (cs := _) rfl (.inr ⟨_, rfl⟩) Tryd.underlying25 Tryd.underlying25 Tryd.type28 rfl rfl rfl (by decide) rfl rfl (lflat_len _).symm rfl rfl rfl (by show (((eA last op k x (jed op x r (v.l.getD k vz)).1 v.l i) ++ (eIns last op k x i)).length + 1) * 112 ≤ _; omega) (by omega) rfl) ?_
          refine zg1 ?_
          refine ztN rfl rfl (op_storeO (r := [.int .i64 v.kind, .bool v.b, .bool v.n.neg, .str v.n.digits, .int .i64 v.n.exp, .str v.s, .arr (σ.length + 4) (((eA last op k x (jed op x r (v.l.getD k vz)).1 v.l i) ++ (eIns last op k x i)).length + 1) 8 0 (((eA last op k x (jed op x r (v.l.getD k vz)).1 v.l i) ++ (eIns last op k x i)).length + 1), .sl false 9 (mcells [])]) rfl Tryd.sizeOf25 rfl rfl rfl rfl rfl (by decide)) ?_
          refine zon ?_
          refine AWp_regL ?_
          refine zv3 ?_
          have hE1 : (eA last op k x (jed op x r (v.l.getD k vz)).1 v.l (i + 1)) = ((eA last op k x (jed op x r (v.l.getD k vz)).1 v.l i) ++ (eIns last op k x i)) ++ [(jed op x r a).1] := by rw [eA, eOld_ed hx hik hlf, hgd]
          refine ⟨i + 1, σ.length + 5, ⟨by omega, fun _ _ => by rw [hgd]; omega⟩, by omega, by simp, ⟨rfl, rfl, rfl, rfl, rfl, rfl, rfl, rfl, rfl, rfl, rfl, trivial⟩, closed_own 5 hcl ?_, ?_, ?_⟩
          ·simp [ownLt, AO.cells, AV.ltL, AV.lt, ltL_append, lflat_lt]
          ·simp [ltE, AV.lt, AV.ltL]
          ·refine (take_own 5).trans ?_
           rw [hE1, lcells_snoc, len_snoc, vcells_eq (jed op x r a).1]; rfl
        ·(try rw [h13]); replace h13 := zcl h13
         have hlf : last = true := by simpa using h13
         have hop1 : op = 1 := Classical.byContradiction fun z => hj2 ⟨hik, hlf, z⟩
         refine AWp_skip ?_
         refine AWp_regL ?_
         refine zg3 ?_
         refine zt rfl (op_buildSlice [[_, _, _, _, _, _, _, _]] rfl Tryd.underlying25 Tryd.sizeOf28 Tryd.zeroValue28 rfl (by decide) (by decide) rfl rfl rfl rfl rfl) ?_
         refine zt rfl (op_appendArrT rfl 4 (sz := 8) (m := 1) (len := ((eA last op k x (jed op x r (v.l.getD k vz)).1 v.l i) ++ (eIns last op k x i)).length) (cs := _) rfl (.inr ⟨_, rfl⟩) Tryd.underlying25 Tryd.underlying25 Tryd.type28 rfl rfl rfl (by decide) rfl rfl (lflat_len _).symm rfl rfl rfl (by show (((eA last op k x (jed op x r (v.l.getD k vz)).1 v.l i) ++ (eIns last op k x i)).length + 1) * 112 ≤ _; omega) (by omega) rfl) ?_
         refine zg1 ?_
         refine ztN rfl rfl (op_storeO (r := [.int .i64 v.kind, .bool v.b, .bool v.n.neg, .str v.n.digits, .int .i64 v.n.exp, .str v.s, .arr (σ.length + 4) (((eA last op k x (jed op x r (v.l.getD k vz)).1 v.l i) ++ (eIns last op k x i)).length + 1) 8 0 (((eA last op k x (jed op x r (v.l.getD k vz)).1 v.l i) ++ (eIns last op k x i)).length + 1), .sl false 9 (mcells [])]) rfl Tryd.sizeOf25 rfl rfl rfl rfl rfl (by decide)) ?_
         refine zon ?_
         refine AWp_regL ?_
         refine zv3 ?_
         have hE1 : (eA last op k x (jed op x r (v.l.getD k vz)).1 v.l (i + 1)) = ((eA last op k x (jed op x r (v.l.getD k vz)).1 v.l i) ++ (eIns last op k x i)) ++ [a] := by rw [eA, eOld_keep hx hlf hop1]
         refine ⟨i + 1, σ.length + 5, ⟨by omega, fun hl => by rw [hlf] at hl; cases hl⟩, by omega, by simp, ⟨rfl, rfl, rfl, rfl, rfl, rfl, rfl, rfl, rfl, rfl, rfl, trivial⟩, closed_own 5 hcl ?_, ?_, ?_⟩
         ·simp [ownLt, AO.cells, AV.ltL, AV.lt, ltL_append, lflat_lt]
         ·simp [ltE, AV.lt, AV.ltL]
         ·refine (take_own 5).trans ?_
          rw [hE1, lcells_snoc, len_snoc, vcells_eq a]; rfl
       ·rw [h12]; replace h12 := zcl h12
        refine zv3 ?_
        refine AWp_condF rfl ?_
        refine AWp_skip ?_
        refine AWp_regL ?_
        refine zg3 ?_
        refine zt rfl (op_buildSlice [[_, _, _, _, _, _, _, _]] rfl Tryd.underlying25 Tryd.sizeOf28 Tryd.zeroValue28 rfl (by decide) (by decide) rfl rfl rfl rfl rfl) ?_
        refine zt rfl (op_appendArrT rfl 4 (sz := 8) (m := 1) (len := ((eA last op k x (jed op x r (v.l.getD k vz)).1 v.l i) ++ (eIns last op k x i)).length) (cs := _) rfl (.inr ⟨_, rfl⟩) Tryd.underlying25 Tryd.underlying25 Tryd.type28 rfl rfl rfl (by decide) rfl rfl (lflat_len _).symm rfl rfl rfl (by show (((eA last op k x (jed op x r (v.l.getD k vz)).1 v.l i) ++ (eIns last op k x i)).length + 1) * 112 ≤ _; omega) (by omega) rfl) ?_
        refine zg1 ?_
        refine ztN rfl rfl (op_storeO (r := [.int .i64 v.kind, .bool v.b, .bool v.n.neg, .str v.n.digits, .int .i64 v.n.exp, .str v.s, .arr (σ.length + 4) (((eA last op k x (jed op x r (v.l.getD k vz)).1 v.l i) ++ (eIns last op k x i)).length + 1) 8 0 (((eA last op k x (jed op x r (v.l.getD k vz)).1 v.l i) ++ (eIns last op k x i)).length + 1), .sl false 9 (mcells [])]) rfl Tryd.sizeOf25 rfl rfl rfl rfl rfl (by decide)) ?_
        refine zon ?_
        refine AWp_regL ?_
        refine zv3 ?_
        have hE1 : (eA last op k x (jed op x r (v.l.getD k vz)).1 v.l (i + 1)) = ((eA last op k x (jed op x r (v.l.getD k vz)).1 v.l i) ++ (eIns last op k x i)) ++ [a] := by rw [eA, eOld_ne hx (by omega)]
        refine ⟨i + 1, σ.length + 5, ⟨by omega, fun hl hlt => hi2 hl (by omega)⟩, by omega, by simp, ⟨rfl, rfl, rfl, rfl, rfl, rfl, rfl, rfl, rfl, rfl, rfl, trivial⟩, closed_own 5 hcl ?_, ?_, ?_⟩
        ·simp [ownLt, AO.cells, AV.ltL, AV.lt, ltL_append, lflat_lt]
        ·simp [ltE, AV.lt, AV.ltL]
        ·refine (take_own 5).trans ?_
         rw [hE1, lcells_snoc, len_snoc, vcells_eq a]; rfl
    ·(try rw [h4]); replace h4 := zcl h4
     refine AWp_exit ?_
     refine AWp_seq ?_
     have hie : i = v.l.length + 1 := by omega
     subst hie
     refine AWp_freezeInO 3 6 4 (eA last op k x (jed op x r (v.l.getD k vz)).1 v.l (v.l.length + 1)).length 8 (eA last op k x (jed op x r (v.l.getD k vz)).1 v.l (v.l.length + 1)).length rfl rfl rfl (lcells (eA last op k x (jed op x r (v.l.getD k vz)).1 v.l (v.l.length + 1))) rfl (lrow_len _) (lcells_length _) (by decide) ?_
     refine AWp_regL ?_
     refine zv3 ?_
     refine zrt ?_
     rw [jedA_ok hlast hk4 hk hko (fun hl => hi2 hl (by have := hkn.1; omega)), vcells_eq]
     exact RQ_ret (rkvs_cons (rkv_ck rfl rfl rfl) (rkvs_cons (rkv_t rfl) rfl)) hcl (by simp [rks, AV.lt, AV.ltL]) ⟨rfl, rfl⟩
 ·(try rw [h1]); replace h1 := zcl h1
  exact absurd hk4 h1
end Lg
namespace Lg
open Go
abbrev BJ := ByteArray × JV
def eMh (last : Bool) (op : Int) (key : ByteArray) (put : Bool) : Option BJ → Bool
  | none => last && decide (op ≠ 2) && !put
  | some q => eMi last op key q.1 put
def eMn (last : Bool) (op : Int) (key : ByteArray) (x : JV) (put : Bool) (o : Option BJ) : List BJ := if eMh last op key put o = true then [(key, x)] else []
variable {last : Bool} {op : Int} {key : ByteArray} {x : JV} {f : JV → JV} {m : List BJ} {i : Nat} {put : Bool} {q : BJ}
theorem eM_end (h : m[i]? = none) : eM last op key x f (m.drop i) put = eMn last op key x put m[i]? := by
  rw [h, List.drop_of_length_le (by simpa using h)]; rfl
theorem eM_step (h : m[i]? = some q) : eM last op key x f (m.drop i) put = eMn last op key x put m[i]? ++ ((if q.1 = key then (if last = true then [] else [(q.1, f q.2)]) else [q]) ++ eM last op key x f (m.drop (i + 1)) (put || eMh last op key put m[i]?)) := by
  have hi := (List.getElem?_eq_some_iff.1 h).1
  have e : m.drop i = q :: m.drop (i + 1) := by
    rw [List.drop_eq_getElem_cons hi]; congr 1
    have := List.getElem?_eq_getElem hi
    rw [h] at this; exact (Option.some.inj this).symm
  rw [e, eM, h]; rfl
theorem eMn_y (h : eMh last op key put m[i]? = true) : eMn last op key x put m[i]? = [(key, x)] ∧ (put || eMh last op key put m[i]?) = true := by
  unfold eMn; rw [if_pos h, h]; exact ⟨rfl, by simp⟩
theorem eMn_n (h : eMh last op key put m[i]? = false) : eMn last op key x put m[i]? = [] ∧ (put || eMh last op key put m[i]?) = put := by
  unfold eMn; rw [if_neg (by simp [h]), h]; exact ⟨rfl, by simp⟩
theorem eMn_bd (o : Option BJ) : (eMn last op key x put o).length + (if put = true then 1 else 0) ≤ (if (put || eMh last op key put o) = true then 1 else 0) := by
  unfold eMn
  have : put = true → eMh last op key put o = false := by
    intro hp; subst hp; cases o <;> simp [eMh, eMi]
  cases put <;> simp_all
  split <;> simp
theorem eMh_end (h : m[i]? = none) (h1 : last = true) (h2 : ¬ op = 2) (h3 : put = false) : eMh last op key put m[i]? = true := by rw [h]; simp [eMh, h1, h2, h3]
theorem eMh_at (h : m[i]? = some q) (h1 : last = true) (h2 : ¬ op = 2) (h3 : put = false) : eMh last op key put m[i]? = !blt q.1 key := by rw [h]; simp [eMh, eMi, h1, h2, h3]
theorem eMh_no (h : last = false ∨ op = 2 ∨ put = true) : eMh last op key put m[i]? = false := by
  cases m[i]? with
  | none => rcases h with h | h | h <;> simp [eMh, h]
  | some q => rcases h with h | h | h <;> simp [eMh, eMi, h]
end Lg
namespace Lg
theorem no5 {a c : Prop} [Decidable a] [Decidable c] {b l : Bool} (h : ¬ (¬ a ∨ (b = false ∧ (¬ c ∨ l = false)))) : a ∧ (b = true ∨ (c ∧ l = true)) := by
  by_cases ha : a <;> by_cases hc : c <;> cases b <;> cases l <;> simp_all
theorem eBad_all {key : ByteArray} {g : JV → Int} {m : List (ByteArray × JV)} {last : Bool} (h : last = false → ∀ p ∈ m, p.1 = key → g p.2 = 0) : eBad last key g m = 0 := by
  cases last with
  | true => rfl
  | false => exact eBad_none (h rfl) _
theorem mem_take_succ {α : Type} {l : List α} {i : Nat} {x p : α} (hx : l[i]? = some x) (h : p ∈ l.take (i + 1)) : p ∈ l.take i ∨ p = x := by
  rw [ltake_succ hx, List.mem_append, List.mem_singleton] at h; exact h
end Lg
