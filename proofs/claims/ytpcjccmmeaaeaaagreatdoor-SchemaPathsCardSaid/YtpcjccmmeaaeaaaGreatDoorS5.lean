/- A part of the proof of Whatever text is handed in: the nodes that the program compiles of its value as a schema are the document's, and what is amiss is told with the document's number and pointer.: Lp6 Lp7 Lk4 Lk5 Lg44 Lk6 Lk7 Lr3 Lw1 W1 Lg35 Lk8 Lr4 Lr5 Lg45 Lg46 Lo1 Lr6 Lk9 Lt1 Lt2 Lt3 Lo2 Lo3 Ln9 Ln10 Ln11 Ln12 Le1 Le2 Le3 Le4 Lg47 Lg48 Lg49 Lg53 Le5 Le6 Lr7 Lr8 Le7 Le8 Le9 Le10 Le11 Le12 Le13 Le14 Lj1 Lj2 Lg57 Lc1 Lc2 Lc3 Lg50 Lg51 Lg52 Lg56 Lg58 Lg59 Lc4 Lg54 Lc5 Ld1 Lc6 Lc7 Lg60. -/
import Derived.Test.YtpcjccmmeaaeaaaGreatDoorS4
import Derived.Test.YtpcjccmmeaaeaaaGreatDoorS3
import Derived.Test.YtpcjccmmeaaeaaaGreatDoorS2
import Derived.MapKept
import Derived.SliceStrings
import Derived.HandedShaped
import Derived.Lib.Atoi
import Derived.Laws.CopyRow
import Derived.Lib.Overlaps
import Derived.Lib.SlTrimSet
import Derived.Lib.RuneCount
import Derived.Lib.TrimUEq
set_option linter.unusedVariables false
set_option linter.unusedSimpArgs false
set_option linter.unusedSectionVars false
namespace Lg
open Go
variable [GLay]
theorem bytesLess_trans : ∀ (a b c : List UInt8), Op.bytesLess a b = true → Op.bytesLess b c = true → Op.bytesLess a c = true
  | [], [], _, h, _ => by simp [Op.bytesLess] at h
  | [], _ :: _, [], _, h => by simp [Op.bytesLess] at h
  | [], _ :: _, _ :: _, _, _ => by simp [Op.bytesLess]
  | _ :: _, [], _, h, _ => by simp [Op.bytesLess] at h
  | _ :: _, _ :: _, [], _, h => by simp [Op.bytesLess] at h
  | x :: a, y :: b, z :: c, h, k => by
    simp only [Op.bytesLess] at h k ⊢
    have ih := bytesLess_trans a b c
    have e1 : ∀ u v : UInt8, (u < v) = (u.toNat < v.toNat) := fun u v => by rw [UInt8.lt_iff_toNat_lt]
    have e2 : ∀ u v : UInt8, (u = v) = (u.toNat = v.toNat) := fun u v => by rw [UInt8.toNat_inj]
    simp only [e1, beq_iff_eq, e2, Bool.if_true_left, Bool.or_eq_true, decide_eq_true_eq, Bool.and_eq_true, Bool.if_false_right] at h k ⊢
    rcases h with h | h <;> rcases k with k | k
    · left; omega
    · left; omega
    · left; omega
    · right; exact ⟨by omega, ih h.2 k.2⟩
theorem blt_trans {a b c : ByteArray} (h : blt a b = true) (k : blt b c = true) : blt a c = true := bytesLess_trans _ _ _ h k
theorem vz_may : jmay vz := (jmay_eq vz).2 ⟨⟨by decide, by decide, by decide, zmay, zutf⟩, fun j q hj => absurd hj (by simp [vz, JV.m]), fun i x hx => by simp [vz, JV.l] at hx⟩
theorem may_b (b : Bool) : jmay (.mk 1 b {} e0 [] []) := (jmay_eq _).2 ⟨⟨by simp [JV.kind], by simp [JV.kind], by cases b <;> decide, zmay, zutf⟩, fun j q hj => absurd hj (by simp [JV.m]), fun i x hx => by simp [JV.l] at hx⟩
theorem may_s {t : ByteArray} (h : Utf t) : jmay (.mk 3 false {} t [] []) := (jmay_eq _).2 ⟨⟨by simp [JV.kind], by simp [JV.kind], by simp [jbare, JV.kind, JV.b, JV.n, JV.s, JV.l, JV.m, JNum.z], zmay, h⟩, fun j q hj => absurd hj (by simp [JV.m]), fun i x hx => by simp [JV.l] at hx⟩
theorem may_n {n : JNum} (h : NumMay n) : jmay (.mk 2 false n e0 [] []) := (jmay_eq _).2 ⟨⟨by simp [JV.kind], by simp [JV.kind], by simp [jbare, JV.kind, JV.b, JV.n, JV.s, JV.l, JV.m, e0], h, zutf⟩, fun j q hj => absurd hj (by simp [JV.m]), fun i x hx => by simp [JV.l] at hx⟩
theorem may_l {l : List JV} (h : lmay l) : jmay (.mk 4 false {} e0 l []) := (jmay_eq _).2 ⟨⟨by simp [JV.kind], by simp [JV.kind], by simp [jbare, JV.kind, JV.b, JV.n, JV.s, JV.l, JV.m, JNum.z, e0], zmay, zutf⟩, fun j q hj => absurd hj (by simp [JV.m]), fun i x hx => (lmay_iff l).1 h i x hx⟩
def MOK (m : List (ByteArray × JV)) : Prop := (∀ q ∈ m, Utf q.1 ∧ jmay q.2) ∧ m.Pairwise fun p q => blt p.1 q.1 = true
theorem MOK.mok {m : List (ByteArray × JV)} (h : MOK m) : mok m m.length := fun j q _ hq => by
  have hm := h.1 q (List.mem_of_getElem? hq)
  refine ⟨⟨hm.1, fun q' hj hq' => ?_⟩, hm.2⟩
  obtain ⟨h1, rfl⟩ := List.getElem?_eq_some_iff.1 hq
  obtain ⟨h2, rfl⟩ := List.getElem?_eq_some_iff.1 hq'
  exact List.pairwise_iff_getElem.1 h.2 (j - 1) j h2 h1 (by omega)
theorem may_m {m : List (ByteArray × JV)} (h : MOK m) : jmay (mkO m) := (jmay_eq _).2 ⟨⟨by simp [mkO, JV.kind], by simp [mkO, JV.kind], by simp [mkO, jbare, JV.kind, JV.b, JV.n, JV.s, JV.l, JV.m, JNum.z, e0], zmay, zutf⟩, h.mok, fun i x hx => by simp [mkO, JV.l] at hx⟩
theorem rins_nil (key : ByteArray) (x : JV) : rins [] key x = [(key, x)] := rfl
theorem rins_cons (q : ByteArray × JV) (m : List (ByteArray × JV)) (key : ByteArray) (x : JV) : rins (q :: m) key x = if blt q.1 key = true then q :: rins m key x else (key, x) :: q :: m := by
  unfold rins rinsK
  by_cases h : blt q.1 key = true
  · simp [List.takeWhile_cons, h]
  · simp [List.takeWhile_cons, h]
theorem rins_mem {m : List (ByteArray × JV)} {key : ByteArray} {x : JV} : ∀ q ∈ rins m key x, q ∈ m ∨ q = (key, x) := by
  induction m with
  | nil => intro q hq; rw [rins_nil] at hq; exact .inr (List.mem_singleton.1 hq)
  | cons p m ih =>
    intro q hq
    rw [rins_cons] at hq
    split at hq
    · rcases List.mem_cons.1 hq with rfl | h
      · exact .inl (List.mem_cons_self ..)
      · exact (ih q h).imp (List.mem_cons_of_mem _) id
    · rcases List.mem_cons.1 hq with rfl | h
      · exact .inr rfl
      · exact .inl h
theorem rins_pw {m : List (ByteArray × JV)} {key : ByteArray} {x : JV} (h : m.Pairwise fun p q => blt p.1 q.1 = true) (hk : ∀ q ∈ m, ¬ q.1 = key) : (rins m key x).Pairwise fun p q => blt p.1 q.1 = true := by
  induction m with
  | nil => rw [rins_nil]; exact List.pairwise_singleton _ _
  | cons p m ih =>
    rw [rins_cons]
    obtain ⟨h1, h2⟩ := List.pairwise_cons.1 h
    split
    · rename_i hl
      refine List.pairwise_cons.2 ⟨fun q hq => ?_, ih h2 fun q hq => hk q (List.mem_cons_of_mem _ hq)⟩
      rcases rins_mem q hq with h3 | rfl
      · exact h1 q h3
      · exact hl
    · rename_i hl
      have hlt : blt key p.1 = true := bytesLess_total _ _ (by simpa [blt] using hl) fun e => hk p (List.mem_cons_self ..) (by
        have := ba_beq p.1 key
        rw [e] at this; simpa using this)
      refine List.pairwise_cons.2 ⟨fun q hq => ?_, h⟩
      rcases List.mem_cons.1 hq with rfl | h3
      · exact hlt
      · exact blt_trans hlt (h1 q h3)
theorem MOK.ins {m : List (ByteArray × JV)} {key : ByteArray} {x : JV} (h : MOK m) (h1 : Utf key) (h2 : jmay x) (hk : ∀ q ∈ m, ¬ q.1 = key) : MOK (rins m key x) :=
  ⟨fun q hq => by
    rcases rins_mem q hq with h3 | rfl
    · exact h.1 q h3
    · exact ⟨h1, h2⟩, rins_pw h.2 hk⟩
theorem msize_ins (m : List (ByteArray × JV)) (key : ByteArray) (x : JV) : msize (rins m key x) = msize m + jsize x := by
  induction m with
  | nil => rw [rins_nil]; simp [msize]
  | cons p m ih =>
    obtain ⟨k, v⟩ := p
    rw [rins_cons]
    split
    · simp only [msize, ih]; omega
    · simp only [msize]; omega
theorem mb_ins {m : List (ByteArray × JV)} {key : ByteArray} {x : JV} (h : mb m) (h1 : key.size ≤ 1000000) (h2 : jb x) : mb (rins m key x) := by
  induction m with
  | nil => rw [rins_nil]; exact ⟨h1, h2, trivial⟩
  | cons p m ih =>
    obtain ⟨k, v⟩ := p
    rw [rins_cons]
    split
    · exact ⟨h.1, h.2.1, ih h.2.2⟩
    · exact ⟨h1, h2, h⟩
theorem lsize_snoc (l : List JV) (x : JV) : lsize (l ++ [x]) = lsize l + jsize x := by
  induction l with
  | nil => simp [lsize]
  | cons a l ih => simp only [List.cons_append, lsize, ih]; omega
theorem lcells_snoc (l : List JV) (x : JV) : (lcells (l ++ [x])).flatten = (lcells l).flatten ++ vcells x := by
  rw [lcells_eq, lcells_eq]; simp
theorem lflat_len (l : List JV) : (lcells l).flatten.length = l.length * 8 := by
  induction l with
  | nil => simp [lcells]
  | cons a l ih => simp only [lcells, List.flatten_cons, List.length_append, ih, vlen, List.length_cons]; omega
theorem ltL_append (n : Nat) (a b : List AV) : AV.ltL n (a ++ b) ↔ AV.ltL n a ∧ AV.ltL n b := by
  induction a with
  | nil => simp [AV.ltL]
  | cons x a ih => simp only [List.cons_append, AV.ltL, ih, and_assoc]
theorem lflat_lt (n : Nat) (l : List JV) : AV.ltL n (lcells l).flatten := by
  induction l with
  | nil => simp [lcells, AV.ltL]
  | cons a l ih => simp only [lcells, List.flatten_cons, ltL_append]; exact ⟨vcells_lt n a, ih⟩
theorem lrow_len (l : List JV) : ∀ r ∈ lcells l, r.length = 8 := fun r hr => by
  rw [lcells_eq] at hr
  obtain ⟨v, _, rfl⟩ := List.mem_map.1 hr
  exact vlen v
theorem lb_snoc {l : List JV} {x : JV} (h : lb l) (hx : jb x) : lb (l ++ [x]) := by
  induction l with
  | nil => exact ⟨hx, trivial⟩
  | cons a l ih => exact ⟨h.1, ih h.2⟩
theorem lmay_snoc {l : List JV} {x : JV} (h : lmay l) (hx : jmay x) : lmay (l ++ [x]) := by
  induction l with
  | nil => exact ⟨hx, trivial⟩
  | cons a l ih => exact ⟨h.1, ih h.2⟩
theorem jfind_none {m : List (ByteArray × JV)} {key : ByteArray} (h : jfind (mkO m) key = none) : ∀ q ∈ m, ¬ q.1 = key := fun q hq e => by
  have h' : (m.find? fun q => decide (q.1 = key)) = none := by
    unfold jfind at h
    rw [if_pos (show (mkO m).kind = 5 from rfl)] at h
    simpa [mkO, JV.m] using h
  have := List.find?_eq_none.1 h' q hq
  simp [e] at this
structure VR (s : ByteArray) (r : RS) (x : JV × RS) : Prop where
  fwd : RTo s r x.2
  deep : x.2.deep = r.deep
  jb : jb x.1
  size : jsize x.1 ≤ (x.2.a : Int) - r.a + 1
  may : x.2.bad = 0 → jmay x.1
section
variable {rv : RS → JV × RS} {s : ByteArray} (hs : s.size ≤ 100000) (hrv : ∀ r, ROK s r → VR s r (rv r))
include hrv
theorem rarrF_ok : ∀ (k : Nat) (l : List JV) (r : RS), ROK s r → lb l → (r.bad = 0 → lmay l) →
    RTo s r (rarrF rv s k l r).2 ∧ (rarrF rv s k l r).2.deep = r.deep ∧ lb (rarrF rv s k l r).1 ∧ lsize (rarrF rv s k l r).1 ≤ lsize l + ((rarrF rv s k l r).2.a : Int) - r.a + 1 ∧ ((rarrF rv s k l r).2.bad = 0 → lmay (rarrF rv s k l r).1) := by
  intro k
  induction k with
  | zero => intro l r h h1 h2; exact ⟨.refl h, rfl, h1, by dsimp only [rarrF]; omega, h2⟩
  | succ k ih =>
    intro l r h h1 h2
    rw [rarrF]
    have hv := hrv r h
    split
    · split
      · rename_i hp
        have hi := rinc_to hv.fwd.ok (by omega)
        obtain ⟨q1, q2, q3, q4, q5⟩ := ih (l ++ [(rv r).1]) (rinc (rv r).2) hi.ok (lb_snoc h1 hv.jb) (fun e => lmay_snoc (h2 (hv.fwd.b e)) (hv.may e))
        refine ⟨hv.fwd.trans (hi.trans q1), q2.trans hv.deep, q3, ?_, q5⟩
        rw [lsize_snoc] at q4
        have := hv.size
        have h5 : (rinc (rv r).2).a = (rv r).2.a + 1 := rfl
        omega
      · refine ⟨hv.fwd, hv.deep, lb_snoc h1 hv.jb, ?_, fun e => lmay_snoc (h2 (hv.fwd.b e)) (hv.may e)⟩
        rw [lsize_snoc]; have := hv.size; dsimp only; omega
    · exact ⟨.refl h, rfl, h1, by dsimp only; omega, h2⟩
include hs
theorem rarr_ok {r : RS} (h : ROK s r) (hb : r.bad = 0) (ha : r.a < s.size) : VR s r (rarr rv s r) := by
  obtain ⟨o1, o2, o3⟩ := ropen_to h hb ha
  obtain ⟨q1, q2, q3, q4, q5⟩ := rarrF_ok hrv (s.size + 2) [] (ropen s r) o1.ok trivial (fun _ => trivial)
  obtain ⟨w1, w2⟩ := rwant_to (lit := rb1) q1.ok
  unfold rarr
  have hll := llen_le (rarrF rv s (s.size + 2) [] (ropen s r)).1
  have e0l : lsize [] = 0 := rfl
  have ha1 := w1.ok.a; have ha2 := w1.a
  have hd := h.d0; have hd1 := h.d1
  refine ⟨⟨?_, ⟨ha1, w1.ok.b, ?_, ?_⟩, fun e => o1.b (q1.b (w1.b e))⟩, ?_, ?_, ?_, fun e => may_l (q5 (w1.b e))⟩
  · have := q1.a; dsimp only [rdec]; omega
  · dsimp only [rdec]; omega
  · have := w1.ok.d1; dsimp only [rdec]; omega
  · dsimp only [rdec]; omega
  · rw [jb_eq]; simp only [JV.n, JV.s, JV.l, JV.m, mb, and_true]
    exact ⟨Nat.zero_le _, Nat.zero_le _, by omega, Nat.zero_le _, q3⟩
  · simp only [jsize, msize, rdec]; omega
omit hs in
theorem rkey_ok {m : List (ByteArray × JV)} {r : RS} (h : ROK s r) : RTo s r (rkey s m r).2 ∧ (rkey s m r).2.deep = r.deep ∧ (rkey s m r).1.size + r.a ≤ (rkey s m r).2.a ∧ Utf (rkey s m r).1 ∧ ((rkey s m r).2.bad = 0 → ∀ q ∈ m, ¬ q.1 = (rkey s m r).1) := by
  have b1 := rblank_to h
  obtain ⟨t1, t2, t3, t4⟩ := rtext_to b1.ok
  have hb1 := b1.a
  unfold rkey rk2
  by_cases hf : (jfind (mkO m) (rtext s (rblank s r)).1).isSome = true
  · simp only [if_pos hf]
    have f1 := rfail_to (a := (rblank s r).a) (b := 4) t1.ok (by decide)
    have b2 := rblank_to f1.ok
    obtain ⟨w1, w2⟩ := rwant_to (lit := rb3) b2.ok
    refine ⟨b1.trans (t1.trans (f1.trans (b2.trans w1))), w2.trans t2, ?_, t3, fun e => absurd (b2.b (w1.b e)) (rfail_bad (by decide))⟩
    have := w1.a; have := b2.a; have := f1.a; omega
  · simp only [if_neg hf]
    have b2 := rblank_to t1.ok
    obtain ⟨w1, w2⟩ := rwant_to (lit := rb3) b2.ok
    refine ⟨b1.trans (t1.trans (b2.trans w1)), w2.trans t2, ?_, t3, fun _ => jfind_none (by simpa using hf)⟩
    have := w1.a; have := b2.a; omega
omit hs hrv in
theorem rk2_ok {m : List (ByteArray × JV)} {r : RS} (h : ROK s r) : RTo s r (rk2 s m r) ∧ (rk2 s m r).deep = r.deep := by
  have b1 := rblank_to h
  obtain ⟨t1, t2, t3, t4⟩ := rtext_to b1.ok
  unfold rk2
  split
  · exact ⟨b1.trans (t1.trans (rfail_to t1.ok (by decide))), t2⟩
  · exact ⟨b1.trans t1, t2⟩
include hs
theorem robjF_ok : ∀ (k : Nat) (m : List (ByteArray × JV)) (r : RS), ROK s r → mb m → (r.bad = 0 → MOK m) →
    RTo s r (robjF rv s k m r).2 ∧ (robjF rv s k m r).2.deep = r.deep ∧ mb (robjF rv s k m r).1 ∧ msize (robjF rv s k m r).1 ≤ msize m + ((robjF rv s k m r).2.a : Int) - r.a + 1 ∧ ((robjF rv s k m r).2.bad = 0 → MOK (robjF rv s k m r).1) := by
  intro k
  induction k with
  | zero => intro m r h h1 h2; exact ⟨.refl h, rfl, h1, by dsimp only [robjF]; omega, h2⟩
  | succ k ih =>
    intro m r h h1 h2
    rw [robjF]
    obtain ⟨k1, k2, k3, k4, k5⟩ := rkey_ok hrv (m := m) h
    have hv := hrv _ k1.ok
    have hk1 := k1.a; have hk6 := k1.ok.a
    have hins : (rv (rkey s m r).2).2.bad = 0 → MOK (rins m (rkey s m r).1 (rv (rkey s m r).2).1) := fun e => (h2 (k1.b (hv.fwd.b e))).ins k4 (hv.may e) (k5 (hv.fwd.b e))
    split
    · split
      · rename_i hp
        have hi := rinc_to hv.fwd.ok (by omega)
        obtain ⟨q1, q2, q3, q4, q5⟩ := ih (rins m (rkey s m r).1 (rv (rkey s m r).2).1) (rinc (rv (rkey s m r).2).2) hi.ok (mb_ins h1 (by omega) hv.jb) hins
        refine ⟨k1.trans (hv.fwd.trans (hi.trans q1)), q2.trans (hv.deep.trans k2), q3, ?_, q5⟩
        rw [msize_ins] at q4
        have := hv.size
        have h5 : (rinc (rv (rkey s m r).2).2).a = (rv (rkey s m r).2).2.a + 1 := rfl
        omega
      · refine ⟨k1.trans hv.fwd, hv.deep.trans k2, mb_ins h1 (by omega) hv.jb, ?_, hins⟩
        rw [msize_ins]; have := hv.size; dsimp only; omega
    · exact ⟨.refl h, rfl, h1, by dsimp only; omega, h2⟩
theorem robj_ok {r : RS} (h : ROK s r) (hb : r.bad = 0) (ha : r.a < s.size) : VR s r (robj rv s r) := by
  obtain ⟨o1, o2, o3⟩ := ropen_to h hb ha
  obtain ⟨q1, q2, q3, q4, q5⟩ := robjF_ok hs hrv (s.size + 2) [] (ropen s r) o1.ok trivial (fun _ => ⟨fun q hq => by simp at hq, List.Pairwise.nil⟩)
  obtain ⟨w1, w2⟩ := rwant_to (lit := rb2) q1.ok
  unfold robj
  have hll := mlen_le (robjF rv s (s.size + 2) [] (ropen s r)).1
  have e0l : msize [] = 0 := rfl
  have ha1 := w1.ok.a; have ha2 := w1.a
  have hd := h.d0; have hd1 := h.d1
  refine ⟨⟨?_, ⟨ha1, w1.ok.b, ?_, ?_⟩, fun e => o1.b (q1.b (w1.b e))⟩, ?_, ?_, ?_, fun e => may_m (q5 (w1.b e))⟩
  · have := q1.a; dsimp only [rdec]; omega
  · dsimp only [rdec]; omega
  · have := w1.ok.d1; dsimp only [rdec]; omega
  · dsimp only [rdec]; omega
  · rw [jb_eq]; simp only [mkO, JV.n, JV.s, JV.l, JV.m, lb, true_and]
    exact ⟨Nat.zero_le _, Nat.zero_le _, Nat.zero_le _, by omega, q3⟩
  · simp only [mkO, jsize, lsize, rdec]; omega
theorem rnumv_ok {r : RS} (h : ROK s r) (hb : r.bad = 0) (ha : r.a < s.size) : VR s r (rnumv s r) := by
  have he := rEnd_le (s := s) (a := r.a) (by omega)
  have hm := rNum_may (s.extract r.a (rEnd s r.a).1)
  have h3 := h.d1; have h0 := h.d0
  unfold rnumv
  refine ⟨⟨he.1, ⟨by dsimp only; omega, fun _ => he.2, h0, by dsimp only; omega⟩, fun _ => hb⟩, rfl, ?_, ?_, fun _ => may_n hm⟩
  · exact jb_nil _ _ _ _ (by have := hm.size; omega) (Nat.zero_le _)
  · simp only [jsize_nil]; omega
theorem rone_ok {r : RS} (h : ROK s r) : VR s r (rone rv s r) := by
  have hz : ∀ {r' : RS} {v : JV}, RTo s r r' → r'.deep = r.deep → jsize v = 1 → jb v → jmay v → VR s r (v, r') := fun h1 h2 h3 h4 h5 => ⟨h1, h2, h4, by have := h1.a; dsimp only; omega, fun _ => h5⟩
  have h0 : jb vz := jb_nil _ _ _ _ (Nat.zero_le _) (Nat.zero_le _)
  unfold rone
  split
  · rename_i hp; have := pk_yes (s := s) (a := r.a) (bad := r.bad) (by omega); exact robj_ok hs hrv h this.1 this.2.1
  split
  · rename_i hp; have := pk_yes (s := s) (a := r.a) (bad := r.bad) (by omega); exact rarr_ok hs hrv h this.1 this.2.1
  split
  · obtain ⟨t1, t2, t3, t4⟩ := rtext_to h
    exact hz t1 t2 (jsize_nil _ _ _ _) (jb_nil _ _ _ _ (Nat.zero_le _) (by have := t1.ok.a; omega)) (may_s t3)
  split
  · exact hz (rwant_to h).1 (rwant_to h).2 (jsize_nil _ _ _ _) h0 vz_may
  split
  · exact hz (rwant_to h).1 (rwant_to h).2 (jsize_nil _ _ _ _) (jb_nil _ _ _ _ (Nat.zero_le _) (Nat.zero_le _)) (may_b true)
  split
  · exact hz (rwant_to h).1 (rwant_to h).2 (jsize_nil _ _ _ _) (jb_nil _ _ _ _ (Nat.zero_le _) (Nat.zero_le _)) (may_b false)
  split
  · rename_i hp; have := pk_yes (s := s) (a := r.a) (bad := r.bad) (by omega); exact rnumv_ok hs hrv h this.1 this.2.1
  · exact hz (rfail_to h (by decide)) rfl (jsize_nil _ _ _ _) h0 vz_may
end
theorem rval_ok {s : ByteArray} (hs : s.size ≤ 100000) : ∀ (n : Nat) (r : RS), ROK s r → VR s r (rval n s r) := by
  intro n
  induction n with
  | zero => intro r h; exact ⟨.refl h, rfl, jb_nil _ _ _ _ (Nat.zero_le _) (Nat.zero_le _), by simp only [rval, vz, jsize_nil]; omega, fun _ => vz_may⟩
  | succ n ih =>
    intro r h
    have b1 := rblank_to h
    have hv := rone_ok hs ih b1.ok
    have b2 := rblank_to hv.fwd.ok
    rw [rval]
    exact ⟨b1.trans (hv.fwd.trans b2), hv.deep, hv.jb, by have := hv.size; have := b1.a; have := b2.a; dsimp only; omega, fun e => hv.may (b2.b e)⟩
theorem rParse_ok (s : ByteArray) (h : (rParse s).2.1 = 0) : jmay (rParse s).1 ∧ jb (rParse s).1 ∧ jsize (rParse s).1 ≤ s.size + 2 ∧ s.size ≤ 20000 := by
  unfold rParse at h ⊢
  split at h
  · cases h
  · rename_i hs
    split at h
    · rename_i hb
      rw [if_neg hs, if_pos hb]
      have h0 : ROK s ⟨0, 0, 0, 0⟩ := ⟨Nat.zero_le _, fun _ => Nat.zero_le _, Int.le_refl _, Int.le_refl _⟩
      have hv : VR s ⟨0, 0, 0, 0⟩ (rpar s) := rval_ok (by omega) (s.size + 2) ⟨0, 0, 0, 0⟩ h0
      have hb2 : (rpar s).2.bad = 0 := by
        unfold rparE at hb
        split at hb
        · exact absurd hb (rfail_bad (by decide))
        · exact hb
      exact ⟨hv.may hb2, hv.jb, by have := hv.size; have := hv.fwd.ok.a; dsimp only at *; omega, by omega⟩
    · rename_i hb; exact absurd h hb
end Lg
namespace Lg
open Go
variable [GLay]
def mrow (q : ByteArray × JV) : List AV := .str q.1 :: vcells q.2
theorem mcells_map (m : List (ByteArray × JV)) : mcells m = m.map mrow := mcells_eq m
theorem mrow_len (q : ByteArray × JV) : (mrow q).length = 9 := by simp [mrow, vlen]
theorem mrows_len (m : List (ByteArray × JV)) : ∀ r ∈ mcells m, r.length = 9 := fun r hr => by
  rw [mcells_map] at hr
  obtain ⟨v, _, rfl⟩ := List.mem_map.1 hr
  exact mrow_len v
theorem mflat_len (m : List (ByteArray × JV)) : (mcells m).flatten.length = m.length * 9 := by
  induction m with
  | nil => simp [mcells]
  | cons a m ih => obtain ⟨k, v⟩ := a; simp only [mcells, List.flatten_cons, List.length_append, ih, List.length_cons, vlen]; omega
theorem vones (v : JV) : ones (vcells v) = true := by rw [vcells_eq]; rfl
theorem mones (m : List (ByteArray × JV)) : ones (mcells m).flatten = true := by
  induction m with
  | nil => simp [mcells, ones]
  | cons a m ih =>
    obtain ⟨k, v⟩ := a
    simp only [mcells, List.flatten_cons, ones_append, ih, Bool.and_true, ones, vones]; rfl
theorem mflat_lt (n : Nat) (m : List (ByteArray × JV)) : AV.ltL n (mcells m).flatten := by
  induction m with
  | nil => simp [mcells, AV.ltL]
  | cons a m ih => obtain ⟨k, v⟩ := a; simp only [mcells, List.flatten_cons, ltL_append, AV.ltL, AV.lt, true_and]; exact ⟨vcells_lt n v, ih⟩
theorem mslice_lo' (m : List (ByteArray × JV)) (j : Nat) : ((mcells m).drop j).take ((mcells m).length - j) = mcells (m.drop j) := by
  rw [List.take_of_length_le (by simp), mcells_map, mcells_map, List.map_drop]
theorem mslice_hi (m : List (ByteArray × JV)) (j : Nat) : ((mcells m).drop (0 : Int).toNat).take (j - (0 : Int).toNat) = mcells (m.take j) := by
  show ((mcells m).drop 0).take (j - 0) = _
  rw [List.drop_zero, Nat.sub_zero, mcells_map, mcells_map, List.map_take]
theorem mflat_ins (m : List (ByteArray × JV)) (key : ByteArray) (v : JV) : (mcells (rins m key v)).flatten = (mcells (m.take (rinsK m key))).flatten ++ (mrow (key, v) ++ (mcells (m.drop (rinsK m key))).flatten) := by
  unfold rins
  rw [mcells_map, mcells_map, mcells_map]; simp
theorem rinsK_le (m : List (ByteArray × JV)) (key : ByteArray) : rinsK m key ≤ m.length := by
  unfold rinsK
  exact (List.takeWhile_sublist _).length_le
theorem rins_len (m : List (ByteArray × JV)) (key : ByteArray) (v : JV) : (rins m key v).length = m.length + 1 := by
  have := rinsK_le m key
  unfold rins; simp; omega
theorem rinsK_yes {m : List (ByteArray × JV)} {key : ByteArray} {j : Nat} {q : ByteArray × JV} (hq : m[j]? = some q) (h : blt q.1 key = true) : rinsK (m.drop j) key = 1 + rinsK (m.drop (j + 1)) key := by
  obtain ⟨hj, rfl⟩ := List.getElem?_eq_some_iff.1 hq
  rw [List.drop_eq_getElem_cons hj]
  unfold rinsK
  simp only [List.takeWhile_cons, h, if_true, List.length_cons]; omega
theorem rinsK_no {m : List (ByteArray × JV)} {key : ByteArray} {j : Nat} {q : ByteArray × JV} (hq : m[j]? = some q) (h : blt q.1 key = false) : rinsK (m.drop j) key = 0 := by
  obtain ⟨hj, rfl⟩ := List.getElem?_eq_some_iff.1 hq
  rw [List.drop_eq_getElem_cons hj]
  unfold rinsK
  simp only [List.takeWhile_cons, h, Bool.false_eq_true, if_false, List.length_nil]
theorem rinsK_end {m : List (ByteArray × JV)} {key : ByteArray} {j : Nat} (h : m.length ≤ j) : rinsK (m.drop j) key = 0 := by
  rw [List.drop_eq_nil_of_le h]; rfl
end Lg
namespace Lg
open Go
end Lg
namespace Lg
open Go
end Lg
namespace Lg
open Go Go.RowKit
variable [GLay]
theorem Good.newMap {s : CS} (g : Good s) : ∃ s', s'.σ = s.σ ++ [.map []] ∧ s'.w = s.w.alloc (.map #[] 0) ∧ Good s' ∧ Ext s s' ∧ V s' (.mapv s.σ.length) (.map (some s.w.heap.size)) := by
  let s' : CS := { σ := s.σ ++ [.map []], μ := fun p => if p = s.σ.length then ⟨s.w.heap.size, 0, 0⟩ else s.μ p, ok := s.ok, w := s.w.alloc (.map #[] 0) }
  have hold : ∀ {p : Nat}, p < s.σ.length → s'.σ[p]? = s.σ[p]? ∧ s'.μ p = s.μ p := fun {p} h =>
    ⟨by show (s.σ ++ [_])[p]? = _; rw [List.getElem?_append_left h], by show (if p = _ then _ else _) = _; rw [if_neg (by omega)]⟩
  have hnew : s'.σ[s.σ.length]? = some (.map []) ∧ s'.μ s.σ.length = ⟨s.w.heap.size, 0, 0⟩ := ⟨by show (s.σ ++ [_])[_]? = _; simp, by show (if _ = _ then _ else _) = _; rw [if_pos rfl]⟩
  have hl : s'.σ.length = s.σ.length + 1 := by show (s.σ ++ [_]).length = _; simp
  have hcase : ∀ {p : Nat} {o : AO}, s'.σ[p]? = some o → (p < s.σ.length ∧ s.σ[p]? = some o ∧ s'.μ p = s.μ p) ∨ (p = s.σ.length ∧ o = .map []) := fun {p o} h => by
    have hp' := (List.getElem?_eq_some_iff.1 h).1
    rcases Nat.lt_or_ge p s.σ.length with hp | hp
    · exact .inl ⟨hp, (hold hp).1 ▸ h, (hold hp).2⟩
    · have e : p = s.σ.length := by omega
      subst e; rw [hnew.1] at h; exact .inr ⟨rfl, (Option.some.inj h).symm⟩
  have hlive : ∀ {p : Nat}, s'.live p → (p < s.σ.length ∧ s.live p ∧ s'.μ p = s.μ p) ∨ p = s.σ.length := fun {p} h => by
    have hp := CS.live_lt h
    rcases Nat.lt_or_ge p s.σ.length with h1 | h1
    · refine .inl ⟨h1, ?_, (hold h1).2⟩
      unfold CS.live at h ⊢
      rw [(hold h1).1, (hold h1).2] at h
      exact h
    · exact .inr (by omega)
  have hsz : s'.w.heap.size = s.w.heap.size + 1 := alloc_size _ _
  have hheap : ∀ {b : Nat}, b < s.w.heap.size → s'.w.heap[b]? = s.w.heap[b]? := fun {b} hb => by
    show (s.w.alloc _).heap[b]? = _; rw [alloc_heap, if_neg (by omega)]
  have hlt : ∀ {p : Nat} {o : AO}, s.σ[p]? = some o → p < s.σ.length := fun h => (List.getElem?_eq_some_iff.1 h).1
  have x : Ext s s' := {
    objs := fun p o h => ⟨o, by rw [(hold (hlt h)).1]; exact h, OLe.refl o, fun _ => (hold (hlt h)).2⟩
    ok := fun _ h => h
    okn := fun _ h => .inl h
    mun := fun p h => by
      rcases hlive h with ⟨h1, h2, h3⟩ | rfl
      · exact .inl ⟨h1, h2, by rw [h3]⟩
      · exact .inr (by rw [hnew.2]; exact Nat.le_refl _)
    frame := fun b hb _ => hheap hb
    size := by omega
    shp := fun p cs cs' z h1 _ h3 => by rw [(hold (hlt h1)).2]; exact (shape_eq (hheap (shape_some h3))).trans h3
    tape := rfl
    os := rfl
    output := rfl }
  refine ⟨s', rfl, rfl, ⟨fun b hb => Nat.lt_of_lt_of_le (g.okb b hb) x.size, fun p o ho => ?_, fun p q hpq hp hq => ?_, fun b o ho => ?_⟩, x, ?_⟩
  · rcases hcase ho with ⟨h1, h2, h3⟩ | ⟨rfl, rfl⟩
    · exact ORep.keep g x h2 h3 (fun hl => (g.live_lt hl).2) (fun hl => hheap (g.live_lt hl).1)
    · refine ⟨?_, [], 0, ?_, PW.nil⟩
      · rw [hnew.2]; exact fun hk => absurd (g.okb _ hk) (by simp)
      · rw [hnew.2]; show (s.w.alloc _).heap[_]? = _; rw [alloc_heap, if_pos rfl]
  · rcases hlive hp with ⟨p1, p2, p3⟩ | rfl <;> rcases hlive hq with ⟨q1, q2, q3⟩ | rfl
    · rw [p3, q3]; exact g.inj p q hpq p2 q2
    · rw [p3, hnew.2]; have := (g.live_lt p2).1; show _ ≠ s.w.heap.size; omega
    · rw [q3, hnew.2]; have := (g.live_lt q2).1; show s.w.heap.size ≠ _; omega
    · exact absurd rfl hpq
  · obtain ⟨h1, h2⟩ := g.glob b o ho
    exact ⟨h1, (hheap (g.okb b h1)).trans h2⟩
  · have := V.mapv (s := s') s.σ.length [] hnew.1
    rw [hnew.2] at this
    exact this
theorem Good.setMap {s : CS} (g : Good s) {p : Nat} {l l' : List (AV × AV)} (ho : s.σ[p]? = some (.map l)) {es : List MapEntry} {c : Nat} (hv : PW s (mflat l') (mflat (es.map fun e => (e.key, e.val)))) :
    ∃ s', s'.σ = s.σ.set p (.map l') ∧ s'.w = { s.w with heap := s.w.heap.setIfInBounds (s.μ p).b (.map es.toArray c) } ∧ Good s' ∧ Ext s s' := by
  have hp : s.live p := by unfold CS.live; rw [ho]; trivial
  have hblt := (g.live_lt hp).1
  have hlt : p < s.σ.length := (List.getElem?_eq_some_iff.1 ho).1
  let s' : CS := { s with σ := s.σ.set p (.map l'), w := { s.w with heap := s.w.heap.setIfInBounds (s.μ p).b (.map es.toArray c) } }
  have hso : ∀ b, b ≠ (s.μ p).b → s'.w.heap[b]? = s.w.heap[b]? := fun b hb => by
    show (s.w.heap.setIfInBounds _ _)[b]? = _; rw [Array.getElem?_setIfInBounds, if_neg (fun e => hb e.symm)]
  have hst : s'.w.heap[(s.μ p).b]? = some (.map es.toArray c) := by
    show (s.w.heap.setIfInBounds _ _)[_]? = _; rw [Array.getElem?_setIfInBounds, if_pos rfl, if_pos hblt]
  have hother : ∀ {q : Nat}, q ≠ p → s'.σ[q]? = s.σ[q]? := fun {q} hq => by
    show (s.σ.set p _)[q]? = _; rw [List.getElem?_set, if_neg (fun e => hq e.symm)]
  have hthis : s'.σ[p]? = some (.map l') := by show (s.σ.set p _)[p]? = _; simp [hlt]
  have hlive' : ∀ {q : Nat}, s'.live q → s.live q := fun {q} hq => by
    by_cases e : q = p
    · subst e; exact hp
    · unfold CS.live at hq ⊢; rw [hother e] at hq; exact hq
  have x : Ext s s' := {
    objs := fun q r hr => by
      by_cases e : q = p
      · subst e
        rw [ho] at hr; cases hr
        exact ⟨_, hthis, .map _ _, fun _ => rfl⟩
      · exact ⟨r, by rw [hother e]; exact hr, OLe.refl r, fun _ => rfl⟩
    ok := fun _ h => h
    okn := fun _ h => .inl h
    mun := fun q hq => .inl ⟨CS.live_lt (hlive' hq), hlive' hq, rfl⟩
    frame := fun b _ hne => hso b (fun e => hne p hp e.symm)
    size := by show _ ≤ (s.w.heap.setIfInBounds _ _).size; simp
    shp := fun q cs cs' z h1 h2 h3 => by
      by_cases e : q = p
      · subst e; rw [ho] at h1; cases h1
      · have hq : s.live q := by unfold CS.live; rw [h1]; trivial
        exact (shape_eq (hso _ (fun e2 => g.inj q p e hq hp e2))).trans h3
    tape := rfl
    os := rfl
    output := rfl }
  refine ⟨s', rfl, rfl, ⟨fun b hb => Nat.lt_of_lt_of_le (g.okb b hb) x.size, fun q r hr => ?_, fun q q' hne h1 h2 => g.inj q q' hne (hlive' h1) (hlive' h2), fun b r hr => ?_⟩, x⟩
  · by_cases e : q = p
    · subst e
      rw [hthis] at hr; cases hr
      exact ⟨(g.live_lt hp).2, es, c, hst, hv.mono g x⟩
    · have hr' : s.σ[q]? = some r := by rw [← hother e]; exact hr
      exact ORep.keep g x hr' rfl (fun hq => (g.live_lt hq).2) (fun hq => hso _ (g.inj q p e hq hp))
  · obtain ⟨h1, h2⟩ := g.glob b r hr
    exact ⟨h1, (hso b (fun e => (g.live_lt hp).2 (e ▸ h1))).trans h2⟩
variable {P : Program} {σ l : List AO} {e : Env} {o : Oper} {p : Nat} {x : AO}
theorem op_makeMap {T : TypeId} (ho : o.op = .makeMap T none) : AOp P σ e o (.mapv σ.length) (σ ++ [.map []]) := by
  intro s a hs g hv K Q hk _
  subst hs
  obtain ⟨s', e1, e2, g', x', hv'⟩ := g.newMap
  refine wp_value (w' := s'.w) ?_ (hk _ _ s' ⟨rfl, e1⟩ g' x' hv')
  rw [e2]
  simp [execOp, ho, Instr.makeMap, Sem.run]
theorem V.inv_mapv {s : CS} {c : Value} (h : V s (.mapv p) c) : c = .map (some (s.μ p).b) := by cases h; rfl
theorem ba_eqq (a b : ByteArray) : (a == b) = decide (a = b) := by
  obtain ⟨a⟩ := a
  obtain ⟨b⟩ := b
  show (a == b) = _
  by_cases h : a = b
  · subst h; simp
  · have : ¬ (ByteArray.mk a = ByteArray.mk b) := fun e => h (by injection e)
    simp [h, this]
def smap (m : List (ByteArray × AV)) : List (AV × AV) := m.map fun q => (.str q.1, q.2)
def mget : List (ByteArray × AV) → ByteArray → Option (Nat × AV)
  | [], _ => none
  | (x, v) :: r, k => if k = x then some (0, v) else (mget r k).map fun z => (z.1 + 1, z.2)
theorem findNow_s {s : CS} (k : ByteArray) : ∀ (m : List (ByteArray × AV)) (es : List MapEntry) (i : Nat), PW s (mflat (smap m)) (mflat (es.map fun e => (e.key, e.val))) →
    ∃ r, Instr.findNow .string (.string k) es i = some r ∧ (match mget m k with
      | none => r = none
      | some (j, v) => ∃ c, r = some (i + j, c) ∧ V s v c)
  | [], es, i, h => by
    have := h.inv_nil
    cases es with
    | nil => exact ⟨none, rfl, rfl⟩
    | cons a r => simp [mflat] at this
  | (y, v) :: m, es, i, h => by
    cases es with
    | nil => have := h.1; simp [smap, mflat] at this
    | cons a r =>
      have h' : PW s (.str y :: v :: mflat (smap m)) (a.key :: a.val :: mflat (r.map fun e => (e.key, e.val))) := h
      have k1 := h'.2 0 _ _ rfl rfl
      have k2 := h'.2 1 _ _ rfl rfl
      have k3 : PW s (mflat (smap m)) (mflat (r.map fun e => (e.key, e.val))) := by
        obtain ⟨q, qs, e1, _, h2⟩ := h'.inv_cons
        obtain ⟨q2, qs2, e2, _, h3⟩ := h2.inv_cons
        cases e1; cases e2; exact h3
      simp only [Instr.findNow, k1.inv_str, Instr.sameNow]
      simp only [mget]
      by_cases hk : k = y
      · subst hk
        rw [if_pos rfl]
        refine ⟨some (i, a.val), ?_, a.val, rfl, k2⟩
        rw [show (k == k) = true by rw [ba_eqq]; simp]
      · rw [if_neg hk]
        obtain ⟨r', h1, h2⟩ := findNow_s k m r (i + 1) k3
        refine ⟨r', ?_, ?_⟩
        · rw [show (k == y) = false by rw [ba_eqq]; simpa using hk]; exact h1
        · revert h2
          cases mget m k with
          | none => exact id
          | some z => obtain ⟨j, v'⟩ := z; rintro ⟨c, e1, e2⟩; exact ⟨c, by rw [e1]; congr 1; congr 1; omega, e2⟩
instance : LawfulBEq ByteArray where
  eq_of_beq {a b} h := by rw [ba_eqq] at h; exact of_decide_eq_true h
  rfl {a} := by rw [ba_eqq]; exact decide_eq_true rfl
theorem mget_map (f : AV) (ks : List ByteArray) (k : ByteArray) : (mget (ks.map fun x => (x, f)) k).map (·.2) = if k ∈ ks then some f else none := by
  induction ks with
  | nil => simp [mget]
  | cons a r ih =>
    simp only [List.map_cons, mget]
    by_cases h : k = a
    · subst h; simp
    · rw [if_neg h]
      simp only [Option.map_map, List.mem_cons, h, false_or]
      rw [← ih]
      cases mget (r.map fun x => (x, f)) k <;> rfl
section
variable {T K E : TypeId} {a b c : Operand} {m : List (ByteArray × AV)} {k : ByteArray} {z : Value}
theorem op_lookupS (ho : o.op = .lookup T a b false) (hu : P.underlying T = some (.map K E)) (hK : P.underlying K = some .string) (hz : ∀ w, (zeroValue E).run P w = Result.ok z w) (hx : opO e a = some (.mapv p)) (hy : opO e b = some (.str k))
    (hσ : σ[p]? = some (.map (smap m))) : AOp P σ e o (((mget m k).map (·.2)).getD (ofConst z)) σ :=
  .of_run fun s ac hs g hv => by
    subst hs
    have h1 := opO_eq hx ▸ hv a (by simp [ho, Op.operands])
    have h2 := (opO_eq hy ▸ hv b (by simp [ho, Op.operands])).inv_str
    have h1' := h1.inv_mapv
    obtain ⟨hnok, es, ck, hb, hpw⟩ := g.obj p _ hσ
    obtain ⟨r, hr, hm⟩ := findNow_s k m es 0 hpw
    have hc : ∀ em, (Instr.checkKey em 10000 K (.string k)).run P s.w = .ok () s.w := fun em => MapKept.run_checkKey (k := .string k) hK (by simp [MapKept.IsKey]) em 9999
    have hf : (Instr.findKey K (.string k) es).run P s.w = .ok r s.w := MapKept.run_findKey hK hr
    cases hg : mget m k with
    | none =>
      rw [hg] at hm
      subst hm
      refine ⟨z, ?_, by simpa using V_ofConst s z⟩
      simp [execOp, ho, h1', h2, Instr.lookup, run_underlying hu, MapKept.run_getObj_map hb, hc, hf, hz, Result.andThen]
    | some y =>
      obtain ⟨j, v⟩ := y
      rw [hg] at hm
      obtain ⟨cv, rfl, hcv⟩ := hm
      refine ⟨cv, ?_, by simpa using hcv⟩
      simp [execOp, ho, h1', h2, Instr.lookup, run_underlying hu, MapKept.run_getObj_map hb, hc, hf, Result.andThen]
theorem op_mapUpdS {v : AV} (ho : o.op = .mapUpdate T a b c) (hu : P.underlying T = some (.map K E)) (hK : P.underlying K = some .string) (hx : opO e a = some (.mapv p)) (hy : opO e b = some (.str k)) (hc : opO e c = some v)
    (hσ : σ[p]? = some (.map (smap m))) (hn : mget m k = none) : AOp P σ e o .any (σ.set p (.map (smap (m ++ [(k, v)])))) := by
  intro s ac hs g hv Kk Q hk _
  subst hs
  have h1 := opO_eq hx ▸ hv a (by simp [ho, Op.operands])
  have h2 := (opO_eq hy ▸ hv b (by simp [ho, Op.operands])).inv_str
  have h3 := opO_eq hc ▸ hv c (by simp [ho, Op.operands])
  have h1' := h1.inv_mapv
  obtain ⟨hnok, es, ck, hb, hpw⟩ := g.obj p _ hσ
  obtain ⟨r, hr, hm⟩ := findNow_s k m es 0 hpw
  rw [hn] at hm
  subst hm
  have hcc : (Instr.checkKey false 10000 K (.string k)).run P s.w = .ok () s.w := MapKept.run_checkKey (k := .string k) hK (by simp [MapKept.IsKey]) false 9999
  have hf : (Instr.findKey K (.string k) es).run P s.w = .ok none s.w := MapKept.run_findKey hK hr
  have mf : ∀ {α : Type} (x y : List (α × α)), mflat (x ++ y) = mflat x ++ mflat y := fun {α} x y => by
    induction x with
    | nil => rfl
    | cons q r ih => simp [mflat, ih]
  obtain ⟨s', e1, e2, g', x'⟩ := g.setMap hσ (l' := smap (m ++ [(k, v)])) (es := es ++ [{ key := .string k, val := ac.eval c, born := ck }]) (c := ck + 1) (by
    simp only [smap, List.map_append, mf]
    exact hpw.append (PW.cons (.str k) (PW.cons h3 PW.nil)))
  refine wp_skipv (w' := s'.w) ?_ (hk .any undef s' ⟨rfl, e1⟩ g' x' (.any _))
  rw [e2]
  simp [execOp, ho, h1', h2, Instr.mapUpdate, run_underlying hu, MapKept.run_getObj_map hb, hcc, hf, MapKept.run_setObj_map _ hb, Result.andThen]
end
end Lg
namespace Lg
open Go
theorem ltLL_str (m : Nat) (l : List ByteArray) : AV.ltLL m (l.map fun x => [AV.str x]) := by
  induction l with
  | nil => simp [AV.ltLL]
  | cons x l ih => simp [AV.ltLL, AV.ltL, AV.lt]; simpa using ih
def kwL : List (ByteArray × Nat) := [
 (⟨#[116, 121, 112, 101]⟩, 1),
 (⟨#[101, 110, 117, 109]⟩, 2),
 (⟨#[99, 111, 110, 115, 116]⟩, 3),
 (⟨#[109, 105, 110, 105, 109, 117, 109]⟩, 4),
 (⟨#[109, 97, 120, 105, 109, 117, 109]⟩, 4),
 (⟨#[109, 105, 110, 76, 101, 110, 103, 116, 104]⟩, 5),
 (⟨#[109, 97, 120, 76, 101, 110, 103, 116, 104]⟩, 5),
 (⟨#[109, 105, 110, 73, 116, 101, 109, 115]⟩, 5),
 (⟨#[109, 97, 120, 73, 116, 101, 109, 115]⟩, 5),
 (⟨#[117, 110, 105, 113, 117, 101, 73, 116, 101, 109, 115]⟩, 6),
 (⟨#[114, 101, 113, 117, 105, 114, 101, 100]⟩, 7),
 (⟨#[105, 116, 101, 109, 115]⟩, 8),
 (⟨#[97, 100, 100, 105, 116, 105, 111, 110, 97, 108, 80, 114, 111, 112, 101, 114, 116, 105, 101, 115]⟩, 8),
 (⟨#[110, 111, 116]⟩, 8),
 (⟨#[112, 114, 111, 112, 101, 114, 116, 105, 101, 115]⟩, 9),
 (⟨#[36, 100, 101, 102, 115]⟩, 9),
 (⟨#[97, 108, 108, 79, 102]⟩, 10),
 (⟨#[97, 110, 121, 79, 102]⟩, 10),
 (⟨#[111, 110, 101, 79, 102]⟩, 10),
 (⟨#[36, 114, 101, 102]⟩, 11)]
def rk (n : ByteArray) : Nat := ((kwL.find? fun q => decide (n = q.1)).map (·.2)).getD 0
def schB (v : JV) : Bool := decide (v.kind = 1) || decide (v.kind = 5)
def tyL : List ByteArray := [⟨#[110, 117, 108, 108]⟩, ⟨#[98, 111, 111, 108, 101, 97, 110]⟩, ⟨#[110, 117, 109, 98, 101, 114]⟩, ⟨#[105, 110, 116, 101, 103, 101, 114]⟩, ⟨#[115, 116, 114, 105, 110, 103]⟩, ⟨#[97, 114, 114, 97, 121]⟩, ⟨#[111, 98, 106, 101, 99, 116]⟩]
def tyB (v : JV) : Bool := decide (v.kind = 3) && tyL.any (fun t => decide (v.s = t))
def txI (l : List JV) (i : Nat) : Prop := ∀ (a : Nat) x, a < i → l[a]? = some x → x.kind = 3 ∧ ∀ (b : Nat) y, b < a → l[b]? = some y → ¬ x.s = y.s
noncomputable def txB (v : JV) : Bool := pb (txI v.l v.l.length) && decide (v.kind = 4)
noncomputable def kOK (c : Nat) (v : JV) : Bool := match c with
  | 1 => tyB v || (txB v && decide (0 < v.l.length) && v.l.all tyB)
  | 2 => decide (v.kind = 4) && decide (0 < v.l.length)
  | 3 => true
  | 4 => decide (v.kind = 2)
  | 5 => decide (v.kind = 2) && rWhole v.n && !v.n.neg
  | 6 => decide (v.kind = 1)
  | 7 => txB v
  | 8 => schB v
  | 9 => decide (v.kind = 5) && v.m.all (fun q => schB q.2)
  | 10 => decide (v.kind = 4) && decide (0 < v.l.length) && v.l.all schB
  | 11 => decide (v.kind = 3)
  | _ => false
noncomputable def rShape (n : ByteArray) (v : JV) : Int := if rk n = 0 then 10 else if kOK (rk n) v = true then 0 else 11
def kidsM (n : ByteArray) (v : JV) : List (ByteArray × JV) :=
  if rk n = 8 then [(e0, v)] else if rk n = 9 then v.m else if rk n = 10 then v.l.zipIdx.map (fun q => (itoaB q.2, q.1)) else []
end Lg
namespace Lg
open Go Go.RowKit
section
variable [GLay]
variable {P : Program} {N : Nat} {σ l : List AO} {e : Env} {Q : QA} {o : Oper}
theorem AWp_slotLe {c : Code} (t : Nat) {v w : AV} (hl : lookO e.l t = some v) (hle : AVle v w) (k : AWp P N c (e.put (some t) w) σ Q) (ht : t < N) : AWp P N c e σ Q := fun s0 s a hs g x he => by
  subst hs
  have hv := he.tmps t
  rw [show e.look t = v from lookO_eq hl] at hv
  exact k s0 s a rfl g x (by
    have h1 := he.put (some t) (hle _ _ hv) (fun d hd => by cases hd; exact ht)
    have h2 : a.put (some t) (a.eval (.tmp t)) = a := put_self (by rw [he.size]; exact ht)
    rwa [h2] at h1)
theorem AWp_ghostT {c : Code} (t sz : Nat) (hl : lookO e.l t = some .nils) (k : AWp P N c (e.put (some t) (.arr σ.length 0 sz 0 0)) (σ ++ [AO.arr sz 0 []]) Q) (ht : t < N) : AWp P N c e σ Q := fun s0 s a hs g x he => by
  subst hs
  obtain ⟨s1, e1, e2, g1, x1⟩ := g.ghost sz
  have hv := (he.mono g x1).tmps t
  rw [show e.look t = .nils from lookO_eq hl] at hv
  have hv0 := hv.inv_nils
  have hv' : V s1 (.arr s.σ.length 0 sz 0 0) (a.eval (.tmp t)) := by
    rw [hv0]; exact .arr _ _ _ _ _ _ rfl (.mk (cs := []) (by rw [e1]; simp) ⟨rfl, .inl ⟨none, rfl, rfl⟩⟩)
  have := k s0 s1 a e1 g1 (x.trans x1) (by
    have h1 := (he.mono g x1).put (some t) hv' (fun d hd => by cases hd; exact ht)
    have h2 : a.put (some t) (a.eval (.tmp t)) = a := put_self (by rw [he.size]; exact ht)
    rwa [h2] at h1)
  rwa [e2] at this
theorem AWp_ghostTO {c : Code} (t sz n : Nat) (hn : l.length = n) (hl : lookO e.l t = some .nils) (k : AWp P N c (e.put (some t) (.arr (σ.length + n) 0 sz 0 0)) (σ ++ (l ++ [AO.arr sz 0 []])) Q) (ht : t < N) : AWp P N c e (σ ++ l) Q :=
  AWp_ghostT t sz hl (by rw [List.length_append, hn, List.append_assoc]; exact k) ht
theorem AWp_freezeMO {c : Code} (t k gg n : Nat) (m : List (ByteArray × JV)) (hn : m.length = n) (hl : lookO e.l t = some (.arr (σ.length + k) gg 9 0 n)) (hk : l[k]? = some (.arr 9 gg (mcells m).flatten)) (h : AWp P N c (e.put (some t) (.sl false 9 (mcells m))) (σ ++ l.set k .dead) Q) (ht : t < N) : AWp P N c e (σ ++ l) Q :=
  AWp_freezeArr t (σ.length + k) gg 9 0 n hl (by rw [get_own]; exact hk) (mcells m) (by rw [Nat.zero_mul, List.drop_zero, ← hn, ← mflat_len, List.take_length]) (mrows_len _) (by rw [mcells_length, hn]) (by decide) (by rw [mflat_len]; omega) (by rw [set_own]; exact h) ht
theorem op_eqSlR {T T' E : TypeId} {x : Operand} {f : Bool} {sz : Nat} {es : List (List AV)} (ho : o.op = .binOp .eql T x (.const (.slice none 0 0)) T') (hu : P.underlying T = some (.slice E)) (hx : opO e x = some (.sl f sz es)) :
    AOpR P σ e o (fun v σ' => σ' = σ ∧ ∃ b, v = .bool b ∧ (b = true → es = [])) (fun _ _ => False) := fun s a hs g hv K Q hk hq => by
  have h1 := opO_eq hx ▸ hv x (by simp [ho, Op.operands])
  obtain ⟨ad, len, cap, hc, hn⟩ : ∃ ad len cap, a.eval x = .slice ad len cap ∧ (ad = none → es = []) := by
    rcases h1.inv_sl with ⟨ad, h, he⟩ | ⟨b, off, cap, vs, h, _⟩
    · exact ⟨ad, 0, 0, h, fun _ => he⟩
    · exact ⟨_, _, _, h, fun h => by cases h⟩
  have he : ∀ d, (Go.Op.equalIn (d + 1) T (.slice ad len cap) (.slice none 0 0)).run P s.w = .ok ad.isNone s.w := fun d => by cases ad <;> simp [Go.Op.equalIn, run_underlying hu]
  have he' : (Go.Op.equal T (.slice ad len cap) (.slice none 0 0)).run P s.w = .ok ad.isNone s.w := he 9999
  have hb : (binOp .eql T (.slice ad len cap) (.slice none 0 0)).run P s.w = .ok (.bool ad.isNone) s.w := by
    simp only [binOp]; simp [he']
  have hg : (eqGuard .eql T x (.const (.slice none 0 0)) (.slice ad len cap) (.slice none 0 0)).run P s.w = .ok () s.w := by
    simp [eqGuard]
  have hrun : (execOp a.eval o).run P s.w = .ok (.value (.bool ad.isNone)) s.w := by
    have hc2 : a.eval (.const (.slice none 0 0)) = .slice none 0 0 := rfl
    simp [execOp, ho, hc, hc2, hb, hg]
  exact wp_value hrun (hk (.bool ad.isNone) _ s ⟨hs, _, rfl, fun h => hn (by simpa using h)⟩ g (Ext.refl s) (.bool _))
end
def kZ (l : List JV) : List (ByteArray × JV) := l.zipIdx.map fun q => (itoaB q.2, q.1)
theorem kZ_len (l : List JV) : (kZ l).length = l.length := by simp [kZ]
theorem kZ_take {l : List JV} {i : Nat} {x : JV} (hx : l[i]? = some x) : kZ (l.take (i + 1)) = kZ (l.take i) ++ [(itoaB i, x)] := by
  have hi := (List.getElem?_eq_some_iff.1 hx).1
  unfold kZ
  rw [List.take_add_one, hx, List.zipIdx_append, List.map_append]
  simp [Nat.min_eq_left (Nat.le_of_lt hi)]
theorem zi_all (p : JV → Bool) (f : Nat → ByteArray) (l : List JV) : ∀ k, ((l.zipIdx k).map fun q => (f q.2, q.1)).all (fun q => p q.2) = l.all p := by
  induction l with
  | nil => intro k; rfl
  | cons a r ih => intro k; simp only [List.zipIdx_cons, List.map_cons, List.all_cons]; rw [ih]
theorem kZ_all (p : JV → Bool) (l : List JV) : (kZ l).all (fun q => p q.2) = l.all p := zi_all p (fun n => itoaB n) l 0
theorem mcells_snoc [GLay] (m : List (ByteArray × JV)) (q : ByteArray × JV) : (mcells (m ++ [q])).flatten = (mcells m).flatten ++ mrow q := by
  rw [mcells_map, mcells_map]; simp
theorem txI_step {l : List JV} {i : Nat} {x : JV} (hi : txI l i) (hx : l[i]? = some x) (h2 : x.kind = 3) (hn : ∀ (b : Nat) y, b < i → l[b]? = some y → ¬ x.s = y.s) : txI l (i + 1) := by
  intro a y ha hy
  by_cases e : a = i
  · subst e; rw [hx] at hy; cases hy; exact ⟨h2, hn⟩
  · exact hi a y (by omega) hy
end Lg
namespace Lg
open Go Go.RowKit
section
variable [GLay] {P : Program} {N : Nat} {σ l : List AO} {e : Env} {Q : QA} {o : Oper}
theorem op_indexAddrA {T E : TypeId} {x y : Operand} {sz p gg len : Nat} {k : IntKind} {n : Int} {cs : List AV} (ho : o.op = .indexAddr T x y) (hu : P.underlying T = some (.slice E))
    (hsz : ∀ w, (Go.sizeOf E).run P w = Result.ok sz w) (hx : opO e x = some (.arr p gg sz 0 len)) (hy : opO e y = some (.int k n)) (h0 : 0 ≤ n) (hlt : n < len) (hσ : σ[p]? = some (.arr sz gg cs)) : AOp P σ e o (.pel p gg (n.toNat * sz)) σ :=
  .of_run fun s a hs g hv => by
    subst hs
    have h1 := opO_eq hx ▸ hv x (by simp [ho, Op.operands])
    have h2 := (opO_eq hy ▸ hv y (by simp [ho, Op.operands])).inv_int
    rcases h1.inv_arr hσ with ⟨_, ⟨ad, h3, h4⟩ | ⟨cap, h3, h4, h5⟩⟩
    · omega
    · refine ⟨_, by simp only [execOp, ho, h3, h2, Sem.run_bind]; rw [run_indexAt_slice (cap := cap) hu hsz h0 hlt]; rfl, ?_⟩
      refine .pel _ _ _ _ rfl ?_
      unfold ArrAt
      rw [hσ]
      exact ⟨Nat.le_refl _, fun _ => by simp⟩
theorem op_indexAddrAO {T E : TypeId} {x y : Operand} {sz j gg len : Nat} {k : IntKind} {n : Int} {cs : List AV} (ho : o.op = .indexAddr T x y) (hu : P.underlying T = some (.slice E))
    (hsz : ∀ w, (Go.sizeOf E).run P w = Result.ok sz w) (hx : opO e x = some (.arr (σ.length + j) gg sz 0 len)) (hy : opO e y = some (.int k n)) (h0 : 0 ≤ n) (hlt : n < len) (hl : l[j]? = some (.arr sz gg cs)) : AOp P (σ ++ l) e o (.pel (σ.length + j) gg (n.toNat * sz)) (σ ++ l) :=
  op_indexAddrA ho hu hsz hx hy h0 hlt (by rw [get_own]; exact hl)
theorem AWp_freezeAO {c : Code} (t k gg sz n : Nat) (es : List (List AV)) (hl : lookO e.l t = some (.arr (σ.length + k) gg sz 0 n)) (hk : l[k]? = some (.arr sz gg es.flatten)) (hel : ∀ r ∈ es, r.length = sz) (hn : es.length = n) (hsz : sz ≠ 0) (h : AWp P N c (e.put (some t) (.sl false sz es)) (σ ++ l.set k .dead) Q) (ht : t < N) : AWp P N c e (σ ++ l) Q := by
  have hf : es.flatten.length = n * sz := by rw [flatten_len hel, hn]
  exact AWp_freezeArr t (σ.length + k) gg sz 0 n hl (by rw [get_own]; exact hk) es (by rw [Nat.zero_mul, List.drop_zero, ← hf, List.take_length]) hel hn hsz (by rw [hf, Nat.zero_add]; exact Nat.le_refl _) (by rw [set_own]; exact h) ht
end
def srow (l : List BL) : List (List AV) := l.map fun x => [AV.str (ba x)]
theorem srow_len (l : List BL) : (srow l).length = l.length := by simp [srow]
theorem srow_get {l : List BL} {i : Nat} {x : BL} (h : l[i]? = some x) : (srow l)[i]? = some [AV.str (ba x)] := by simp [srow, h]
theorem srow_flat (l : List BL) : (srow l).flatten = l.map fun x => AV.str (ba x) := by
  induction l with
  | nil => rfl
  | cons a r ih => show [AV.str (ba a)] ++ (srow r).flatten = _; rw [ih]; rfl
@[simp] theorem srow_lt (m : Nat) (l : List BL) : AV.ltLL m (srow l) := by
  induction l with
  | nil => simp [srow, AV.ltLL]
  | cons a r ih => simpa [srow, AV.ltLL, AV.ltL, AV.lt] using ih
@[simp] theorem smap_lt (m : Nat) (l : List BL) : AV.ltL m (l.map fun x => AV.str (ba x)) := by
  induction l with
  | nil => simp [AV.ltL]
  | cons a r ih => simpa [AV.ltL, AV.lt] using ih
theorem ra1_len (c : UInt8) (nw : BL) (h : nw.length ≤ 2) : ∀ s : BL, (ra [c] nw s).length ≤ 2 * s.length := by
  intro s
  rw [ra_one]
  induction s with
  | nil => simp
  | cons b r ih =>
    rw [List.flatMap_cons, List.length_append, List.length_cons]
    have : (if b = c then nw else [b]).length ≤ 2 := by split <;> simp [h]
    omega
theorem shw_snoc (l : List BL) (x : BL) : shw (l ++ [x]) = shw l ++ 47 :: pesc x := by simp [shw]
theorem shw_len (B : Nat) : ∀ l : List BL, (∀ x ∈ l, x.length ≤ B) → (shw l).length ≤ l.length * (2 * B + 1)
  | [], _ => by simp [shw]
  | x :: l, h => by
    have ih := shw_len B l (fun y hy => h y (by simp [hy]))
    have hx := h x (by simp)
    have he := esc_len x
    rw [shw_cons, List.length_cons, List.length_append, List.length_cons, Nat.add_mul]
    omega
def tbad (s : BL) (i : Nat) : Bool := decide (s[i]? = some 126) && !(decide (s[i + 1]? = some 48) || decide (s[i + 1]? = some 49))
def pE (s : BL) : Option Nat := if s = [] then none else if ¬ s[0]? = some 47 then some 0 else (List.range s.length).find? (tbad s)
def pN (s : BL) : List BL := if s = [] then [] else if (pE s).isSome then [] else (pcs 47 (s.drop 1)).map pune
theorem okP_tbad {s : BL} (h : okP s) (i : Nat) : tbad s i = false := by
  unfold tbad
  by_cases hi : s[i]? = some 126
  · rcases h i hi with h | h <;> simp [hi, h]
  · simp [hi]
theorem pE_none {s : BL} (h0 : ¬ s = []) (h1 : s[0]? = some 47) (h : ∀ i, i < s.length → tbad s i = false) : pE s = none := by
  unfold pE; rw [if_neg h0, if_neg (by simp [h1])]
  exact List.find?_eq_none.2 fun i hi => by simp [h i (List.mem_range.1 hi)]
theorem pN_shw (l : List BL) : pE (shw l) = none ∧ pN (shw l) = l := by
  cases l with
  | nil => exact ⟨rfl, rfl⟩
  | cons x r =>
    have hne : ¬ shw (x :: r) = [] := by rw [shw_cons]; simp
    have hE : pE (shw (x :: r)) = none := pE_none hne (by rw [shw_cons]; rfl) (fun i _ => okP_tbad (okP_shw _) i)
    refine ⟨hE, ?_⟩
    unfold pN; rw [if_neg hne, hE]
    rw [shw_cons]
    exact shw_back x r
end Lg
namespace Lg
open Go
end Lg
namespace Lg
open Go Go.Lib Go.ChangeShapes Go.WideShapes
end Lg
namespace Go
theorem Lg.returns_and_shaped {H : Type} {enc : TypeId × Value → H} {a : Assume} {C : Checked} {os : Os} {f : FuncId} {fn : Func} {s : ChangeSpec} {conds : List PathCond} {apart fresh handsOn again : Bool} {X : World → Array Value → Prop}
    (hX : ∀ (w w' : World) (args : Array Value), w.heap = w'.heap → X w args → X w' args)
    (own : ownKnob C.prog.godebug = none) (started : os.Started) (noInit : C.prog.inits.idxOf? f = none) (hfn : C.prog.funcs[f]? = some fn)
    (witness : ∃ (w : World) (tape : Tape) (i : Input), w.os = os ∧ (w.forCall tape i).Shaped C.prog ∧ i.vars = [] ∧ Input.okWide C.prog (w.forCall tape i) .any w.heap.size f i ∧
      ((s.pre enc C.prog fn conds apart (w.forCall tape i).memory i.args ∧ X (w.forCall tape i).memory i.args) ∧ sizedMet enc C.prog fn (OpenSpec.ofChange s) apart (w.forCall tape i).memory i.args) ∧ a.holds C.prog (lone (Frame.enter C.prog f i.args .normal) [] (w.forCall tape i)))
    (contract : ∀ (W : World) (base : Nat) (args : Array Value) (ds gs : List (DataW H)) (before : List MemPlace),
      (∀ (j : Nat) t v, fn.params[j]? = some t → args[j]? = some v → Value.okWide C.prog W .any base t v) →
      DataW.Whole enc C.prog fn.params.toList s.vars apart W args.toList ds gs before →
      X W args → W.ShapedOpen C.prog →
      Calls C.prog f args W fun e W' => ∃ v, e = .returned v ∧ s.post enc C.prog fn apart fresh handsOn again W args v W') :
    ReturnsInHanded a C os f .any (fun w args => (s.pre enc C.prog fn conds apart w args ∧ X w args) ∧ sizedMet enc C.prog fn (OpenSpec.ofChange s) apart w args) (s.post enc C.prog fn apart fresh handsOn again) := by
  refine returnsInHanded_of_calls own started noInit witness ?_
  intro w tape i _ hsh _ hok hpre _
  obtain ⟨_, _, _, fn', hfn', _, _, _, _, hval⟩ := hok
  obtain rfl : fn' = fn := Option.some.inj (hfn'.symm.trans hfn)
  obtain ⟨⟨⟨ds, gs, before, hw, _⟩, hx⟩, _⟩ := hpre
  refine (contract (w.forCall tape i) w.heap.size i.args ds gs before hval (DataW.Whole.of_heap (w' := w.forCall tape i) (by rfl) hw) (hX _ _ _ (by rfl) hx) hsh).mono fun e W' ⟨v, he, hp⟩ => ?_
  subst he
  exact ChangeSpec.post_blind hp
end Go
set_option maxRecDepth 20000
set_option maxHeartbeats 4000000
namespace Lg
open Go Go.Proofs Go.RowKit
variable [GLay] 


theorem run_c (s : ByteArray) (a : Int) (σ : List AO) (hs : s.size ≤ 1000000000) (h0 : 0 ≤ a) (ha : a ≤ 1000000000) : ACalls Tryz.prog 70 [.str s, .int .i64 a] σ (Ret (.int .i64 (runl s a.toNat : Int)) σ) := by
 refine ACalls_body Tryz.func70 rfl Tryz.ntmps70 (res1 Tryz.results70) (Nat.le_of_ble_eq_true rfl) (fun hcl hal => ?_)
 refine zw1 ?_
 refine zw1 ?_
 refine AWp_seq ?_
 refine AWp_block ?_
 -- loop 0 LIVE 0:param 1:param 4:assign 5:assign
 refine AWp_loop (ι := Nat) (fun i => i + runl s (a.toNat + i) = runl s a.toNat) (fun i => ⟨[], [(0, .str s), (1, .int .i64 a), (5, .int .i64 (i : Int))]⟩) (fun i => σ) (fun i => s.size - (a.toNat + i)) (0) (by simp) ?_ rfl (fun i hi => ?_)
 ·refine ⟨rfl, rfl, rfl, rfl, trivial⟩
 have hle := runl_le s (a.toNat + i)
 have hle0 := runl_le s a.toNat
 have hto : (a + (i : Int)).toNat = a.toNat + i := by omega
 refine AWp_seq ?_
 refine zu7 ?_
 refine zsp 12 rfl (fun h1 => ?_) fun h1 => ?_
 ·rw [h1]; replace h1 := zcl h1
  refine zg8 ?_
  refine zsp 20 rfl (fun h2 => ?_) fun h2 => ?_
  ·rw [h2]; replace h2 := zcl h2
   refine zv7 ?_
   refine AWp_cond rfl (fun h3 => ?_) (fun h3 => ?_)
   ·(try rw [h3]); replace h3 := zcl h3
    refine AWp_skip ?_
    refine AWp_block ?_
    refine AWp_regL ?_
    refine zv3 ?_
    (try simp only [hto] at *)
    have hd : dig s (a.toNat + i) := by simp only [dig]; omega
    have hr := runl_yes (by omega) hd
    refine ⟨i + 1, σ.length, by rw [← Nat.add_assoc]; omega, by omega, Nat.le_refl _, ⟨rfl, rfl, rfl, rfl, trivial⟩, hcl, ?_, List.take_length⟩
    simp [ltE, AV.lt]
   ·(try rw [h3]); replace h3 := zcl h3
    refine AWp_exit ?_
    refine zw2 ?_
    refine zrt ?_
    (try simp only [hto] at *)
    have hr := runl_no (b := s) (i := a.toNat + i) (by simp only [dig]; omega)
    refine ResQ_10 rfl hcl trivial (Ret_of ?_)
    congr 1; omega
  ·rw [h2]; replace h2 := zcl h2
   refine zv7 ?_
   refine AWp_condF rfl ?_
   refine AWp_exit ?_
   refine zw2 ?_
   refine zrt ?_
   (try simp only [hto] at *)
   have hr := runl_no (b := s) (i := a.toNat + i) (by simp only [dig]; omega)
   refine ResQ_10 rfl hcl trivial (Ret_of ?_)
   congr 1; omega
 ·rw [h1]; replace h1 := zcl h1
  refine zg10 ?_
  refine zg5 ?_
  refine zon ?_
  refine AWp_condF rfl ?_
  refine AWp_exit ?_
  refine zw2 ?_
  refine zrt ?_
  (try simp only [hto] at *)
  have hr := runl_no (b := s) (i := a.toNat + i) (by simp only [dig]; omega)
  refine ResQ_10 rfl hcl trivial (Ret_of ?_)
  congr 1; omega

theorem mayNum_c (n : JNum) (σ : List AO) (hn : n.digits.size ≤ 1000000000) : ACalls Tryz.prog 101 [.agg (ncells n)] σ (Ret (.bool (pb (NumMay n))) σ) := by
 refine ACalls_body Tryz.func101 rfl Tryz.ntmps101 (res1 Tryz.results101) (Nat.le_of_ble_eq_true rfl) (fun hcl hal => ?_)
 have hr0 := runl0 n.digits
 refine zw2 ?_
 refine AWp_seq ?_
 refine zw3 ?_
 refine AWp_cond rfl (fun h1 => ?_) (fun h1 => ?_)
 ·(try rw [h1]); replace h1 := zcl h1
  refine zu4 ?_
  refine zsp 9 rfl (fun h2 => ?_) fun h2 => ?_
  ·rw [h2]; replace h2 := zcl h2
   refine zv5 ?_
   refine zrt ?_
   refine ResQ_1 rfl hcl trivial (Ret_of ?_)
   refine bool_of ?_
   by_cases hd : digs n.digits n.digits.size
   ·have hd2 := hr0.2 hd; simp_all [NumMay] <;> omega
   ·have hd2 := mt hr0.1 hd; simp_all [NumMay] <;> omega
  ·rw [h2]; replace h2 := zcl h2
   refine zv5 ?_
   refine zrt ?_
   refine ResQ_1 rfl hcl trivial (Ret_of ?_)
   refine bool_of ?_
   by_cases hd : digs n.digits n.digits.size
   ·have hd2 := hr0.2 hd; simp_all [NumMay] <;> omega
   ·have hd2 := mt hr0.1 hd; simp_all [NumMay] <;> omega
 ·(try rw [h1]); replace h1 := zcl h1
  have hpos := ba_pos h1
  refine AWp_skip ?_
  refine AWp_seq ?_
  refine AWp_seq ?_
  refine AWp_drawL #[0, 1, 3, 7, 15, 31, 63, 127, 255, 511, 1023, 2047, 4095, 8191, 16383, 32767, 65535, 131071, 32767, 294911, 819199, 2097151, 4194303] Tryz.mixed (by decide +kernel) (by decide +kernel) ?_
  refine zd1 ?_
  refine zp1 ?_
  refine zd3 ?_
  refine zspr 18 rfl (fun h3 => ?_) fun h3 => ?_
  ·rw [h3]; replace h3 := zcl h3
   refine zd10 ?_
   refine zd8 ?_
   refine RP.nil rfl ?_
   refine AWp_condT rfl ?_
   refine zw1 ?_
   refine zrt ?_
   refine ResQ_1 rfl hcl trivial (Ret_of ?_)
   refine bool_of ?_
   by_cases hd : digs n.digits n.digits.size
   ·have hd2 := hr0.2 hd; simp_all [NumMay] <;> omega
   ·have hd2 := mt hr0.1 hd; simp_all [NumMay] <;> omega
  ·rw [h3]; replace h3 := zcl h3
   refine zd1 ?_
   refine zp1 ?_
   refine zd3 ?_
   refine zspr 23 rfl (fun h4 => ?_) fun h4 => ?_
   ·rw [h4]; replace h4 := zcl h4
    refine zd10 ?_
    refine zd3 ?_
    refine RP.nil rfl ?_
    refine AWp_condT rfl ?_
    refine zw1 ?_
    refine zrt ?_
    refine ResQ_1 rfl hcl trivial (Ret_of ?_)
    refine bool_of ?_
    by_cases hd : digs n.digits n.digits.size
    ·have hd2 := hr0.2 hd; simp_all [NumMay] <;> omega
    ·have hd2 := mt hr0.1 hd; simp_all [NumMay] <;> omega
   ·rw [h4]; replace h4 := zcl h4
    refine zd1 ?_
    refine zp1 ?_
    refine zd3 ?_
    refine zspr 28 rfl (fun h5 => ?_) fun h5 => ?_
    ·rw [h5]; replace h5 := zcl h5
     refine zd8 ?_
     refine RP.nil rfl ?_
     refine AWp_condT rfl ?_
     refine zw1 ?_
     refine zrt ?_
     refine ResQ_1 rfl hcl trivial (Ret_of ?_)
     refine bool_of ?_
     by_cases hd : digs n.digits n.digits.size
     ·have hd2 := hr0.2 hd; simp_all [NumMay] <;> omega
     ·have hd2 := mt hr0.1 hd; simp_all [NumMay] <;> omega
    ·rw [h5]; replace h5 := zcl h5
     refine zd1 ?_
     refine zp1 ?_
     refine yPG rfl rfl rfl (zc rfl (run_c _ _ _ hn (by omega) (by omega))) (trivial) ?_
     refine zd1 ?_
     refine zp1 ?_
     refine zd3 ?_
     refine RP.nil rfl ?_
     refine AWp_cond rfl (fun h6 => ?_) (fun h6 => ?_)
     ·(try rw [h6]); replace h6 := zcl h6
      refine zw1 ?_
      refine zrt ?_
      refine ResQ_1 rfl hcl trivial (Ret_of ?_)
      refine bool_of ?_
      by_cases hd : digs n.digits n.digits.size
      ·have hd2 := hr0.2 hd; simp_all [NumMay] <;> omega
      ·have hd2 := mt hr0.1 hd; simp_all [NumMay] <;> omega
     ·(try rw [h6]); replace h6 := zcl h6
      refine AWp_skip ?_
      refine zu5 ?_
      refine zsp 41 rfl (fun h7 => ?_) fun h7 => ?_
      ·rw [h7]; replace h7 := zcl h7
       refine zg10 ?_
       refine zon ?_
       refine zrt ?_
       refine ResQ_1 rfl hcl trivial (Ret_of ?_)
       refine bool_of ?_
       by_cases hd : digs n.digits n.digits.size
       ·have hd2 := hr0.2 hd; simp_all [NumMay] <;> omega
       ·have hd2 := mt hr0.1 hd; simp_all [NumMay] <;> omega
      ·rw [h7]; replace h7 := zcl h7
       refine zg10 ?_
       refine zon ?_
       refine zrt ?_
       refine ResQ_1 rfl hcl trivial (Ret_of ?_)
       refine bool_of ?_
       by_cases hd : digs n.digits n.digits.size
       ·have hd2 := hr0.2 hd; simp_all [NumMay] <;> omega
       ·have hd2 := mt hr0.1 hd; simp_all [NumMay] <;> omega

end Lg
namespace Lg
open Go Go.RowKit
variable [GLay]
variable {P : Program} {N : Nat} {σ l : List AO} {e : Env} {Q : QA} {o : Oper}
theorem AWp_freezeI {c : Code} (t p off : Nat) (T : TypeId) {cs : List AV} (hl : lookO e.l t = some (.iface T (.ptr p off))) (hσ : σ[p]? = some (.box cs)) (k : AWp P N c (e.put (some t) (.iface T (.pp (cs.drop off)))) (σ.set p .gone) Q) (ht : t < N) : AWp P N c e σ Q := fun s0 s a hs g x he => by
  subst hs
  have hv := he.tmps t
  rw [show e.look t = .iface T (.ptr p off) from lookO_eq hl] at hv
  obtain ⟨v, hv0, hv1⟩ := hv.inv_iface
  obtain ⟨s', e1, e2, g', x', hv'⟩ := freezeBox_V g hσ hv1
  have hv2 : V s' (.iface T (.pp (cs.drop off))) (a.eval (.tmp t)) := by rw [hv0]; exact .iface _ _ _ hv'
  have := k s0 s' a e1 g' (x.trans x') (by
    have h1 := (he.mono g x').put (some t) hv2 (fun d hd => by cases hd; exact ht)
    have h2 : a.put (some t) (a.eval (.tmp t)) = a := put_self (by rw [he.size]; exact ht)
    rwa [h2] at h1)
  rwa [e2] at this
section asserts
variable {T U U' E : TypeId} {x : Operand} {v : AV}
theorem op_assertT (ho : o.op = .typeAssert x T U true) (hu : P.underlying U = some (.pointer E)) (hx : opO e x = some (.iface U v)) : AOp P σ e o (.tup [v, .bool true]) σ :=
  .of_run fun s a hs g hv => by
    have h1 := hv x (by simp [ho, Op.operands])
    rw [opO_eq hx] at h1
    obtain ⟨w, h2, h3⟩ := h1.inv_iface
    refine ⟨.tuple #[w, .bool true], ?_, .tup [v, .bool true] [w, .bool true] rfl (fun i c z e1 e2 => by
      match i, e1, e2 with
      | 0, e1, e2 => cases e1; cases e2; exact h3
      | 1, e1, e2 => cases e1; cases e2; exact .bool _)⟩
    simp [execOp, ho, h2, Instr.typeAssert, run_underlying hu]
end asserts
end Lg
namespace Lg
open Go
theorem kZ_get {l : List JV} {i : Nat} {q : ByteArray × JV} (h : (kZ l)[i]? = some q) : l[i]? = some q.2 := by
  unfold kZ at h
  rw [List.getElem?_map, List.getElem?_zipIdx] at h
  cases hx : l[i]? with
  | none => rw [hx] at h; simp at h
  | some x => rw [hx] at h; simp at h; rw [← h]
theorem kids_jb {n : ByteArray} {v : JV} (hv : jb v) {i : Nat} {q : ByteArray × JV} (h : (kidsM n v)[i]? = some q) : jb q.2 ∧ jsize q.2 ≤ jsize v := by
  obtain ⟨_, _, _, _, h5, h6⟩ := (jb_eq v).1 hv
  have hs := jsize_eq v
  have hl := lsize_nn v.l
  have hm := msize_nn v.m
  unfold kidsM at h
  split at h
  · have hi := (List.getElem?_eq_some_iff.1 h).1
    have : i = 0 := by simp at hi; exact hi
    subst this
    cases h
    exact ⟨hv, by simp⟩
  · split at h
    · have := msize_mem h
      exact ⟨(mb_get h6 h).2, by omega⟩
    · split at h
      · have hx := kZ_get (l := v.l) h
        have := lsize_mem hx
        exact ⟨lb_get h5 hx, by omega⟩
      · simp at h
theorem kids_len {n : ByteArray} {v : JV} (hv : jb v) : (kidsM n v).length ≤ 1000000 := by
  obtain ⟨_, _, h3, h4, _, _⟩ := (jb_eq v).1 hv
  unfold kidsM
  split
  · simp
  · split
    · exact h4
    · split
      · have := kZ_len v.l; unfold kZ at this; omega
      · simp
theorem kids_one {n : ByteArray} {v : JV} (h : rk n = 8) : (kidsM n v).length = 1 := by
  unfold kidsM; rw [if_pos h]; rfl
end Lg
namespace Lg
open Go Go.RowKit
variable [GLay] {P : Program} {N : Nat} {σ l : List AO} {e : Env} {Q : QA} {o : Oper}
theorem spl_set (v : AV) : ∀ (i : Nat) (cs : List AV), i < cs.length → spl i cs [v] = some (cs.set i v)
  | 0, [], h => by simp at h
  | 0, c :: cs, _ => by simp [spl, putAt]
  | i + 1, [], h => by simp at h
  | i + 1, c :: cs, h => by simp [spl, spl_set v i cs (by simpa using h)]
end Lg
namespace Lg
open Go
theorem pcs_len (c : UInt8) : ∀ l : BL, (pcs c l).length ≤ l.length + 1
  | [] => by simp [pcs]
  | b :: l => by
    have ih := pcs_len c l
    unfold pcs
    split
    · simp only [List.length_cons]; omega
    · split
      · simp
      · rename_i p r h; rw [h] at ih; simp only [List.length_cons] at ih ⊢; omega
end Lg
namespace Lg
open Go
end Lg
namespace Lg
open Go
theorem pune_len (l : BL) (h : okP l) : (pune l).length ≤ l.length := by
  refine okP_ind (M := fun l => (pune l).length ≤ l.length) (Nat.le_refl _) ?_ ?_ ?_ l.length l (Nat.le_refl _) h
  · intro r _ ih; show (126 :: pune r).length ≤ _; simp only [List.length_cons]; omega
  · intro r _ ih; show (47 :: pune r).length ≤ _; simp only [List.length_cons]; omega
  · intro b r hb _ ih; rw [une_c hb]; simp only [List.length_cons]; omega
variable [GLay] {P : Program} {σ : List AO}
theorem ldv_elP {p g sz off i : Nat} {cs : List AV} {v : AV} (hl : σ[p]? = some (.arr sz g cs)) (hv : cs[i]? = some v) (ho : off = i) : ldv σ 1 (.pel p g off) = some [v] := by
  subst ho
  simp only [ldv, hl, if_true]
  have hi := (List.getElem?_eq_some_iff.1 hv).1
  rw [List.drop_eq_getElem_cons hi, (List.getElem?_eq_some_iff.1 hv).2]
  rfl
end Lg
namespace Lg
open Go
theorem pcs_split (c : UInt8) : ∀ l : BL, ∃ ps p, pcs c l = ps ++ [p]
  | [] => ⟨[], [], rfl⟩
  | b :: l => by
    obtain ⟨ps, p, h⟩ := pcs_split c l
    unfold pcs
    split
    · exact ⟨[] :: ps, p, by rw [h]; rfl⟩
    · rw [h]
      cases ps with
      | nil => exact ⟨[], b :: p, rfl⟩
      | cons q r => exact ⟨(b :: q) :: r, p, rfl⟩
theorem pcs_snoc {b c : UInt8} (hb : ¬ b = c) : ∀ {l : BL} {ps : List BL} {p : BL}, pcs c l = ps ++ [p] → pcs c (l ++ [b]) = ps ++ [p ++ [b]]
  | [], ps, p, h => by
    have : ps = [] ∧ p = [] := by
      rw [pcs] at h
      cases ps with
      | nil => simp at h; exact ⟨rfl, h⟩
      | cons q r => simp at h
    obtain ⟨rfl, rfl⟩ := this
    simp [pcs, hb]
  | a :: l, ps, p, h => by
    obtain ⟨qs, q, hq⟩ := pcs_split c l
    have ih := pcs_snoc hb hq
    rw [List.cons_append, pcs, ih]
    rw [pcs, hq] at h
    split at h
    · rename_i e
      rw [if_pos e]
      have h2 : ([] :: qs) ++ [q] = ps ++ [p] := h
      obtain ⟨h3, h4⟩ := List.append_inj' h2 rfl
      subst h3; simp at h4; subst h4; rfl
    · rename_i e
      rw [if_neg e]
      cases qs with
      | nil =>
        have h2 : [] ++ [a :: q] = ps ++ [p] := h
        obtain ⟨h3, h4⟩ := List.append_inj' h2 rfl
        subst h3; simp at h4; subst h4; rfl
      | cons r rs =>
        have h2 : ((a :: r) :: rs) ++ [q] = ps ++ [p] := h
        obtain ⟨h3, h4⟩ := List.append_inj' h2 rfl
        subst h3; simp at h4; subst h4; rfl
theorem pune_app (m : BL) : ∀ (n : Nat) (l : BL), l.length ≤ n → okP l → pune (l ++ m) = pune l ++ pune m :=
  okP_ind (M := fun l => pune (l ++ m) = pune l ++ pune m) rfl
    (fun r _ ih => by simp only [List.cons_append, pune, ih]) (fun r _ ih => by simp only [List.cons_append, pune, ih])
    (fun b r hb _ ih => by rw [List.cons_append, une_c hb, une_c hb, ih]; rfl)
def nms (u : BL) : List BL := (pcs 47 u).map pune
theorem nms_split (u : BL) : ∃ ps p, nms u = ps ++ [p] := by
  obtain ⟨ps, p, h⟩ := pcs_split 47 u
  exact ⟨ps.map pune, pune p, by simp [nms, h]⟩
theorem nms_e {u : BL} {ps : List BL} {p : BL} {b : UInt8} (h : nms u = ps ++ [p]) (hu : okP u) (hb : b = 48 ∨ b = 49) : nms (u ++ [126, b]) = ps ++ [p ++ [if b = 49 then 47 else 126]] := by
  obtain ⟨qs, q, hq⟩ := pcs_split 47 u
  have hok := pcs_ok u.length u (Nat.le_refl _) hu q (by rw [hq]; simp)
  have h1 := pcs_snoc (b := 126) (c := 47) (by decide) hq
  have h2 := pcs_snoc (b := b) (c := 47) (by rcases hb with rfl | rfl <;> decide) h1
  rw [show u ++ [126, b] = u ++ [126] ++ [b] by simp]
  unfold nms at h ⊢
  rw [h2]
  rw [hq, List.map_append] at h
  obtain ⟨h3, h4⟩ := List.append_inj' h rfl
  simp at h4; subst h3; subst h4
  rw [List.map_append, List.map_cons, List.map_nil, show q ++ [126] ++ [b] = q ++ [126, b] by simp, pune_app [126, b] _ q (Nat.le_refl _) hok.1]
  rcases hb with rfl | rfl <;> rfl
theorem okP_snoc2 {u : BL} {b : UInt8} (h : okP u) (hb : b = 48 ∨ b = 49) : okP (u ++ [126, b]) := fun i hi => by
  rcases Nat.lt_trichotomy i u.length with h1 | h1 | h1
  · rw [List.getElem?_append_left h1] at hi
    have := h i hi
    have h2 : i + 1 < u.length := by
      rcases this with h | h <;> exact (List.getElem?_eq_some_iff.1 h).1
    rwa [List.getElem?_append_left h2]
  · subst h1
    rw [List.getElem?_append_right (by omega), Nat.add_sub_cancel_left]
    rcases hb with rfl | rfl <;> simp
  · rw [List.getElem?_append_right (by omega)] at hi
    obtain ⟨k, hk⟩ : ∃ k, i - u.length = k + 1 := ⟨i - u.length - 1, by omega⟩
    rw [hk] at hi
    cases k with
    | zero => simp at hi; rcases hb with rfl | rfl <;> cases hi
    | succ k => simp at hi
theorem take_b {s : BL} {i : Nat} {b : UInt8} (h : s[i]? = some b) (hi : 1 ≤ i) : (s.take (i + 1)).drop 1 = (s.take i).drop 1 ++ [b] := by
  rw [List.take_add_one, h]
  have hl := (List.getElem?_eq_some_iff.1 h).1
  rw [List.drop_append_of_le_length (by rw [List.length_take]; omega)]; rfl
theorem take_2 {s : BL} {i : Nat} {a b : UInt8} (h : s[i]? = some a) (h2 : s[i + 1]? = some b) (hi : 1 ≤ i) : (s.take (i + 1 + 1)).drop 1 = (s.take i).drop 1 ++ [a, b] := by
  rw [take_b h2 (by omega), take_b h hi]; simp
structure PAt (s : BL) (i : Nat) (L : List BL) : Prop where
  le : i ≤ s.length
  z : i = 0 → L = []
  ok : okP ((s.take i).drop 1)
  nm : 1 ≤ i → L = nms ((s.take i).drop 1)
  bad : ∀ j, j < i → tbad s j = false
theorem PAt.zero (s : BL) : PAt s 0 [] := ⟨Nat.zero_le _, fun _ => rfl, okP_nil, fun h => absurd h (by omega), fun j h => absurd h (by omega)⟩
theorem tb_no {s : BL} {i : Nat} {b : UInt8} (h : s[i]? = some b) (hb : ¬ b = 126) : tbad s i = false := by
  unfold tbad; rw [decide_eq_false (by rw [h]; simpa using hb)]; rfl
theorem PAt.esc {s : BL} {i : Nat} {L ps : List BL} {q : BL} {b : UInt8} (p : PAt s i L) (hi : 1 ≤ i) (hL : L = ps ++ [q]) (h : s[i]? = some 126) (h2 : s[i + 1]? = some b) (hb : b = 48 ∨ b = 49) : PAt s (i + 1 + 1) (ps ++ [q ++ [if b = 49 then 47 else 126]]) where
  le := (List.getElem?_eq_some_iff.1 h2).1
  z := fun e => absurd e (by omega)
  ok := by rw [take_2 h h2 hi]; exact okP_snoc2 p.ok hb
  nm := fun _ => by rw [take_2 h h2 hi]; exact (nms_e ((p.nm hi).symm.trans hL) p.ok hb).symm
  bad := fun j hj => by
    by_cases e : j = i
    · subst e; unfold tbad; rw [h2]; rcases hb with rfl | rfl <;> simp
    · by_cases e2 : j = i + 1
      · subst e2; exact tb_no h2 (by rcases hb with rfl | rfl <;> decide)
      · exact p.bad j (by omega)
theorem PAt.done {s : BL} {L : List BL} (p : PAt s s.length L) (h0 : ¬ s = []) (h1 : s[0]? = some 47) : pE s = none ∧ pN s = L := by
  have hl : 1 ≤ s.length := List.length_pos_iff.2 h0
  have hE : pE s = none := pE_none h0 h1 p.bad
  refine ⟨hE, ?_⟩
  rw [p.nm hl]
  unfold pN; rw [if_neg h0, hE, List.take_length]; rfl
theorem PAt.last {s : BL} {i : Nat} {L : List BL} (p : PAt s i L) (hi : 1 ≤ i) : ∃ ps q, L = ps ++ [q] := by
  obtain ⟨ps, q, h⟩ := nms_split ((s.take i).drop 1)
  exact ⟨ps, q, (p.nm hi).trans h⟩
theorem PAt.len {s : BL} {i : Nat} {L : List BL} (p : PAt s i L) : L.length ≤ i + 1 := by
  by_cases h0 : i = 0
  · rw [p.z h0]; simp
  · rw [p.nm (by omega)]; unfold nms; rw [List.length_map]
    have := pcs_len 47 ((s.take i).drop 1)
    rw [List.length_drop, List.length_take] at this; omega
theorem PAt.el {s : BL} {i : Nat} {L : List BL} (p : PAt s i L) : ∀ x ∈ L, x.length ≤ i := by
  intro x hx
  by_cases h0 : i = 0
  · rw [p.z h0] at hx; cases hx
  · rw [p.nm (by omega)] at hx
    unfold nms at hx
    obtain ⟨y, hy, rfl⟩ := List.mem_map.1 hx
    have h1 := pcs_ok _ _ (Nat.le_refl _) p.ok y hy
    have := pune_len y h1.1
    have h2 := h1.2.2
    rw [List.length_drop, List.length_take] at h2; omega
end Lg
namespace Lg
open Go Go.RowKit
variable [GLay]
def imap (m : List (Int × AV)) : List (AV × AV) := m.map fun q => (.int .i64 q.1, q.2)
def iget : List (Int × AV) → Int → Option (Nat × AV)
  | [], _ => none
  | (x, v) :: r, k => if k = x then some (0, v) else (iget r k).map fun z => (z.1 + 1, z.2)
theorem iget_none {m : List (Int × AV)} {k : Int} (h : ∀ q ∈ m, ¬ q.1 = k) : iget m k = none := by
  induction m with
  | nil => rfl
  | cons q r ih => obtain ⟨x, v⟩ := q; rw [iget, if_neg (fun e => h (x, v) (by simp) e.symm), ih (fun q hq => h q (by simp [hq]))]; rfl
variable {P : Program} {N : Nat} {σ : List AO} {e : Env} {o : Oper} {p : Nat}
section
variable {T K E : TypeId} {a b c : Operand} {m : List (Int × AV)} {k : Int} {z : Value}
end
end Lg
namespace Lg
open Go Go.RowKit
variable [GLay]
variable {P : Program} {N : Nat} {e : Env} {σ l : List AO} {Q : QA} {ops : Array Oper} {o : Oper}
theorem AWp_ghostInO {c : Code} (k i sz n : Nat) (hn : l.length = n) {bs : List AV} (hq : l[k]? = some (.box bs)) (hi : bs[i]? = some .nils) (h : AWp P N c e (σ ++ (l ++ [AO.arr sz 0 []]).set k (.box (bs.set i (.arr (σ.length + n) 0 sz 0 0)))) Q) : AWp P N c e (σ ++ l) Q :=
  AWp_ghostIn (σ.length + k) i sz (by rw [get_ownT rfl]; exact hq) hi (by
    have e1 : (σ ++ l).length = σ.length + n := by simp [hn]
    rw [e1, List.append_assoc, set_ownT rfl]; exact h)
theorem AWp_freezeInO {c : Code} (kq i kp gg sz len : Nat) {bs cs : List AV} (hq : l[kq]? = some (.box bs)) (hi : bs[i]? = some (.arr (σ.length + kp) gg sz 0 len)) (hσ : l[kp]? = some (.arr sz gg cs)) (es : List (List AV)) (hes : es.flatten = cs)
    (hel : ∀ r ∈ es, r.length = sz) (hlen : es.length = len) (hsz : sz ≠ 0) (k : AWp P N c e (σ ++ (l.set kp .dead).set kq (.box (bs.set i (.sl false sz es)))) Q) : AWp P N c e (σ ++ l) Q := by
  have hcl : cs.length = len * sz := by rw [← hes, flatten_len hel, hlen]
  refine AWp_freezeIn (σ.length + kq) i (σ.length + kp) gg sz 0 len (by rw [get_ownT rfl]; exact hq) hi (by rw [get_ownT rfl]; exact hσ) es ?_ hel hlen hsz ?_ (by rw [set_ownT rfl, set_ownT rfl]; exact k)
  · rw [Nat.zero_mul, List.drop_zero, ← hcl, List.take_length]; exact hes
  · rw [Nat.zero_add, hcl]; exact Nat.le_refl _
theorem ResQ_K {n0 : Nat} {ts : List Nat} {el : List (Nat × AV)} {v : AV} {R : Out → List AO → Prop} (m : Nat) (hm : n0 ≤ m) (h : resA ts ⟨[], el⟩ = v) (hc : closed m σ) (hv : v.lt m) (hR : R (.ret v) (σ.take m)) : ResQ n0 ts R .ret ⟨[], el⟩ σ :=
  ⟨rfl, m, hm, hc, by rw [h]; exact hv, by rw [h]; exact hR⟩
theorem imap_lt (n : Nat) (m : List (Int × AV)) (h : ∀ q ∈ m, q.2.lt n) : AV.ltL n (mflat (imap m)) := by
  induction m with
  | nil => trivial
  | cons a r ih =>
    obtain ⟨k, v⟩ := a
    exact ⟨trivial, h (k, v) (by simp), ih (fun q hq => h q (by simp [hq]))⟩
end Lg
namespace Lg
open Go
structure JOp where
  op : Int
  pa : List BL
  fr : List BL
  v : JV
def ocells (o : JOp) : List AV := .int .i64 o.op :: .sl false 1 (srow o.pa) :: .sl false 1 (srow o.fr) :: vcells o.v
def orows (l : List JOp) : List (List AV) := l.map ocells
section
variable [GLay]
@[simp] theorem ocells_lt (n : Nat) (o : JOp) : AV.ltL n (ocells o) := by
  rw [ocells]; exact ⟨trivial, srow_lt n _, srow_lt n _, vcells_lt n _⟩
@[simp] theorem orows_lt (n : Nat) (l : List JOp) : AV.ltLL n (orows l) := by
  rw [AV.ltLL_iff]; intro e he; simp [orows] at he; obtain ⟨x, _, rfl⟩ := he; exact ocells_lt n x
@[simp] theorem oflat_lt (n : Nat) (l : List JOp) : AV.ltL n (orows l).flatten := by
  rw [AV.ltL_iff]; intro a ha
  obtain ⟨e, he, h⟩ := List.mem_flatten.1 ha
  exact (AV.ltL_iff _ _).1 ((AV.ltLL_iff _ _).1 (orows_lt n l) e he) a h
end
section
variable [GLay]
end
end Lg
namespace Lg
open Go
end Lg
namespace Lg
open Go Go.RowKit
variable [GLay] {P : Program} {N : Nat} {σ l : List AO} {e : Env} {Q : QA} {o : Oper}
end Lg
namespace Lg
open Go
end Lg
namespace Lg
open Go
mutual
def seenV : JV → Int → List (Int × AV)
  | .mk k b n s l m, id => seenL l (id + 1) ++ seenM m (id + 1 + lsize l) ++ [(id, .agg (vcells (.mk k b n s l m)))]
def seenL : List JV → Int → List (Int × AV)
  | [], _ => []
  | x :: r, id => seenV x id ++ seenL r (id + jsize x)
def seenM : List (ByteArray × JV) → Int → List (Int × AV)
  | [], _ => []
  | (_, x) :: r, id => seenV x id ++ seenM r (id + jsize x)
end
mutual
theorem seenV_key : ∀ (v : JV) (id : Int), ∀ q ∈ seenV v id, id ≤ q.1 ∧ q.1 < id + jsize v
  | .mk k b n s l m, id => fun q hq => by
    have hl := lsize_nn l
    have hm := msize_nn m
    rw [seenV] at hq
    rw [jsize]
    rcases List.mem_append.1 hq with hq | hq
    · rcases List.mem_append.1 hq with hq | hq
      · have := seenL_key l _ q hq; omega
      · have := seenM_key m _ q hq; omega
    · rw [List.mem_singleton] at hq; subst hq; simp only; omega
theorem seenL_key : ∀ (l : List JV) (id : Int), ∀ q ∈ seenL l id, id ≤ q.1 ∧ q.1 < id + lsize l
  | [], id => fun q hq => by simp [seenL] at hq
  | x :: r, id => fun q hq => by
    have hr := lsize_nn r
    have hx := jsize_pos x
    rw [seenL] at hq
    rw [lsize]
    rcases List.mem_append.1 hq with hq | hq
    · have := seenV_key x _ q hq; omega
    · have := seenL_key r _ q hq; omega
theorem seenM_key : ∀ (m : List (ByteArray × JV)) (id : Int), ∀ q ∈ seenM m id, id ≤ q.1 ∧ q.1 < id + msize m
  | [], id => fun q hq => by simp [seenM] at hq
  | (a, x) :: r, id => fun q hq => by
    have hr := msize_nn r
    have hx := jsize_pos x
    rw [seenM] at hq
    rw [msize]
    rcases List.mem_append.1 hq with hq | hq
    · have := seenV_key x _ q hq; omega
    · have := seenM_key r _ q hq; omega
end
section
variable [GLay]
mutual
theorem seenV_lt (n : Nat) : ∀ (v : JV) (id : Int), ∀ q ∈ seenV v id, q.2.lt n
  | .mk k b nn s l m, id => fun q hq => by
    rw [seenV] at hq
    rcases List.mem_append.1 hq with hq | hq
    · rcases List.mem_append.1 hq with hq | hq
      · exact seenL_lt n l _ q hq
      · exact seenM_lt n m _ q hq
    · rw [List.mem_singleton] at hq; subst hq; simp [AV.lt]
theorem seenL_lt (n : Nat) : ∀ (l : List JV) (id : Int), ∀ q ∈ seenL l id, q.2.lt n
  | [], id => fun q hq => by simp [seenL] at hq
  | x :: r, id => fun q hq => by
    rw [seenL] at hq
    rcases List.mem_append.1 hq with hq | hq
    · exact seenV_lt n x _ q hq
    · exact seenL_lt n r _ q hq
theorem seenM_lt (n : Nat) : ∀ (m : List (ByteArray × JV)) (id : Int), ∀ q ∈ seenM m id, q.2.lt n
  | [], id => fun q hq => by simp [seenM] at hq
  | (a, x) :: r, id => fun q hq => by
    rw [seenM] at hq
    rcases List.mem_append.1 hq with hq | hq
    · exact seenV_lt n x _ q hq
    · exact seenM_lt n r _ q hq
end
end
end Lg
namespace Lg
open Go
def DD (r : RS) (x : JV × RS) : Prop := r.deep ≤ 32 → x.2.bad = 0 → jdepth x.1 + r.deep ≤ 32
section
variable [GLay]
variable {rv : RS → JV × RS} {s : ByteArray} (hs : s.size ≤ 100000) (hrv : ∀ r, ROK s r → VR s r (rv r)) (hd : ∀ r, ROK s r → DD r (rv r))
include hrv hd
include hs
end
section
variable [GLay]
end
section
variable [GLay]
theorem may_nol {v : JV} (h : jmay v) (hk : ¬ v.kind = 4) : v.l = [] := by
  have hb := ((jmay_eq v).1 h).1.2.2.1
  unfold jbare at hb
  simp only [hk, Bool.and_eq_true, Bool.or_eq_true, decide_eq_true_eq, or_false] at hb
  exact List.length_eq_zero_iff.1 hb.2.1
theorem may_nom {v : JV} (h : jmay v) (hk : ¬ v.kind = 5) : v.m = [] := by
  have hb := ((jmay_eq v).1 h).1.2.2.1
  unfold jbare at hb
  simp only [hk, Bool.and_eq_true, Bool.or_eq_true, decide_eq_true_eq, or_false] at hb
  exact List.length_eq_zero_iff.1 hb.2.2
theorem may_get {v : JV} (h : jmay v) {i : Nat} {x : JV} (hx : v.l[i]? = some x) : jmay x := ((jmay_eq v).1 h).2.2 i x hx
theorem may_mget {v : JV} (h : jmay v) {i : Nat} {q : ByteArray × JV} (hq : v.m[i]? = some q) : jmay q.2 :=
  (((jmay_eq v).1 h).2.1 i q (List.getElem?_eq_some_iff.1 hq).1 hq).2
end
end Lg
namespace Lg
open Go
section
variable [GLay]
structure OB (o : JOp) : Prop where
  jb : jb o.v
  pa : o.pa.length ≤ 2000000
  fr : o.fr.length ≤ 2000000
end
end Lg
namespace Lg
open Go
end Lg
namespace Lg
open Go
end Lg
namespace Lg
open Go
end Lg
namespace Lg
open Go
structure JOk (n : JNum) (d : BL) : Prop where
  dig : n.digits = ba d
  ne : d ≠ []
  ad : aD d
  hd : d.head? ≠ some 48
  lst : d.getLast? ≠ some 48
  len : d.length ≤ 60
  lo : -1000 ≤ n.exp
  hi : n.exp ≤ 1000
def JMay (n : JNum) : Prop := n = {} ∨ ∃ d, JOk n d
theorem JOk.nil {n : JNum} {d : BL} (h : JOk n d) : ¬ n.digits = ⟨#[]⟩ := fun e => h.ne (ba_nil.1 (h.dig ▸ e))
theorem JOk.size {n : JNum} {d : BL} (h : JOk n d) : n.digits.size = d.length := by rw [h.dig, ba_size]
theorem JMay.bnd {n : JNum} (h : JMay n) : n.digits.size ≤ 1000000 ∧ -1000000 ≤ n.exp ∧ n.exp ≤ 1000000 := by
  rcases h with rfl | ⟨d, h⟩
  · exact ⟨by decide, by decide, by decide⟩
  · have := h.size; have := h.len; have := h.lo; have := h.hi
    omega
theorem whole_ok {n : JNum} (h : JMay n) : decide (0 ≤ n.exp) = rWhole n := by
  rcases h with rfl | ⟨d, h⟩
  · rfl
  · unfold rWhole; rw [decide_eq_false h.nil]; rfl
end Lg
namespace Lg
open Go
theorem valL_snoc (l : BL) (c : UInt8) (v : Int) : valL v (l ++ [c]) = 10 * valL v l + (c.toNat : Int) - 48 := by
  unfold valL; rw [List.foldl_append]; rfl
theorem dd_facts (u : Nat) : aD (Lib.decDigits u) ∧ valL 0 (Lib.decDigits u) = u ∧ Lib.decDigits u ≠ [] ∧ (0 < u → (Lib.decDigits u).head? ≠ some 48) := by
  induction u using Nat.strongRecOn with
  | ind u ih =>
    by_cases h : u < 10
    · rw [dd_small h]
      have e : (UInt8.ofNat (48 + u)).toNat = 48 + u := by rw [UInt8.toNat_ofNat']; omega
      refine ⟨fun b hb => ?_, ?_, by simp, ?_⟩
      · have : b = UInt8.ofNat (48 + u) := by simpa using hb
        subst this; rw [isD_iff, e]; omega
      · show 10 * (0 : Int) + ((UInt8.ofNat (48 + u)).toNat : Int) - 48 = u
        rw [e]; omega
      · intro hu hh
        have : UInt8.ofNat (48 + u) = 48 := by simpa using hh
        have := congrArg UInt8.toNat this
        rw [e] at this
        have e48 : (48 : UInt8).toNat = 48 := rfl
        omega
    · rw [dd_big h]
      obtain ⟨h1, h2, h3, h4⟩ := ih (u / 10) (by omega)
      have e : (UInt8.ofNat (48 + u % 10)).toNat = 48 + u % 10 := by rw [UInt8.toNat_ofNat']; omega
      refine ⟨fun b hb => ?_, ?_, by simp, ?_⟩
      · rcases List.mem_append.1 hb with hb | hb
        · exact h1 b hb
        · have : b = UInt8.ofNat (48 + u % 10) := by simpa using hb
          subst this; rw [isD_iff, e]; omega
      · rw [valL_snoc, h2, e]; omega
      · intro hu
        have hd0 : (Lib.decDigits (u / 10) ++ [UInt8.ofNat (48 + u % 10)]).head? = (Lib.decDigits (u / 10)).head? := by
          cases hq : Lib.decDigits (u / 10) with
          | nil => exact absurd hq h3
          | cons => rfl
        rw [hd0]
        exact h4 (by omega)
theorem itoa_pos {n : Int} (h : 0 ≤ n) : Lib.itoa n = Lib.decDigits n.toNat := by unfold Lib.itoa; rw [if_neg (by omega)]
end Lg
namespace Lg
open Go
def jixB (nm : BL) : Prop := nm = [] ∨ ¬ runl (ba nm) 0 = nm.length ∨ (1 < nm.length ∧ (bat (ba nm) 0).toNat = 48) ∨ 18 < nm.length
instance (nm : BL) : Decidable (jixB nm) := by unfold jixB; infer_instance
end Lg
namespace Lg
open Go
variable {op : Int} {x v : JV} {nm : BL} {r : List BL}
variable {last : Bool} {k : Nat}
section
variable {y a : JV} {l : List JV} {i : Nat}
end
end Lg
namespace Lg
end Lg
namespace Lg
open Go
abbrev BJ := ByteArray × JV
variable {last : Bool} {op : Int} {key : ByteArray} {x : JV} {f : JV → JV} {m : List BJ} {i : Nat} {put : Bool} {q : BJ}
end Lg
namespace Lg
end Lg
namespace Lg
open Go
section
variable [GLay]
end
end Lg
namespace Lg
open Go
end Lg
namespace Lg
open Go Go.RowKit
variable [GLay]
variable {P : Program} {N : Nat} {e : Env} {σ l : List AO} {Q : QA} {o : Oper}
end Lg
namespace Lg
open Go Go.RowKit
variable [GLay]
variable {P : Program} {N : Nat} {e : Env} {σ l : List AO} {Q : QA} {o : Oper}
end Lg
namespace Lg
open Go Go.RowKit
variable [GLay]
variable {P : Program} {N : Nat} {e : Env} {σ l : List AO} {Q : QA} {o : Oper} {p : Nat} {x y z : AO} {f : FuncId} {args : List AV} {v : AV}
section
variable {T K E : TypeId} {a b c : Operand} {m : List (Int × AV)} {k : Int} {zv : Value}
end
end Lg
namespace Lg
open Go Go.RowKit
variable [GLay]
section
variable {P : Program} {σ : List AO} {e : Env} {o : Oper}
end
end Lg
namespace Lg
open Go Go.RowKit
variable [GLay]
end Lg
namespace Lg
open Go
variable {sz : Nat} {rows : List (List AV)} {row : List AV} {i : Nat}
end Lg
namespace Lg
open Go
section
variable [GLay] {σ : List AO} {p : Nat} {X y z : AO}
end
variable {sz : Nat} {rows : List (List AV)} {row : List AV} {i : Nat}
end Lg
namespace Lg
open Go
end Lg
namespace Lg
open Go
end Lg
namespace Lg
end Lg
namespace Lg
open Go
end Lg
namespace Lg
open Go
end Lg
namespace Lg
open Go
def msorted (m : List BJ) : Prop := m.Pairwise fun p q => blt p.1 q.1 = true
theorem blt_irr [GLay] (a : ByteArray) : blt a a = false := by
  cases h : blt a a with
  | false => rfl
  | true => have := blt_le (a := a) (b := a) (by simp [h]); rw [h] at this; cases this
end Lg
namespace Lg
open Go
end Lg
namespace Lg
open Go
theorem aD_run {l : BL} : aD l ↔ runl (ba l) 0 = l.length := by
  rw [runl_ba]
  constructor
  · intro h
    congr 1
    induction l with
    | nil => rfl
    | cons a r ih =>
      rw [List.takeWhile_cons, if_pos (h a (List.mem_cons_self ..)), ih (fun b hb => h b (List.mem_cons_of_mem _ hb))]
  · exact aD_of_len
end Lg
namespace Lg
open Go
end Lg
namespace Lg
open Go
end Lg
namespace Lg
open Go
variable {g : JV → JV × Bool} {nm : BL} {r : List BL} {v : JV}
end Lg
namespace Lg
open Go
theorem may_ms [GLay] {v : JV} (h : jmay v) : msorted v.m := by
  have hm := ((jmay_eq v).1 h).2.1
  refine List.pairwise_iff_getElem.2 fun i j hi hj hij => ?_
  induction j with
  | zero => omega
  | succ j ih =>
    have hs := ((hm (j + 1) v.m[j + 1] hj (List.getElem?_eq_getElem hj)).1).2 v.m[j] (by omega) (by rw [Nat.add_sub_cancel]; exact List.getElem?_eq_getElem (by omega))
    by_cases e : i = j
    · subst e; exact hs
    · exact blt_trans (ih (by omega) (by omega)) hs
inductive jst : JV → Prop where
  | mk (k : Int) (b : Bool) (n : JNum) (s : ByteArray) (l : List JV) (m : List BJ) (h4 : ¬ k = 4 → l = []) (h5 : ¬ k = 5 → m = []) (hs : msorted m) (hl : ∀ x ∈ l, jst x) (hm : ∀ q ∈ m, jst q.2) : jst (.mk k b n s l m)
theorem st_eq (v : JV) : jst v ↔ (¬ v.kind = 4 → v.l = []) ∧ (¬ v.kind = 5 → v.m = []) ∧ msorted v.m ∧ (∀ x ∈ v.l, jst x) ∧ (∀ q ∈ v.m, jst q.2) := by
  constructor
  · intro h
    cases h with
    | mk k b n s l m h4 h5 hs hl hm => exact ⟨h4, h5, hs, hl, hm⟩
  · intro h
    cases v with
    | mk k b n s l m => exact .mk k b n s l m h.1 h.2.1 h.2.2.1 h.2.2.2.1 h.2.2.2.2
theorem st_ms {v : JV} (h : jst v) : msorted v.m := ((st_eq v).1 h).2.2.1
theorem st_get {v : JV} (h : jst v) {i : Nat} {x : JV} (hx : v.l[i]? = some x) : jst x := ((st_eq v).1 h).2.2.2.1 x (List.mem_of_getElem? hx)
theorem st_mget {v : JV} (h : jst v) {i : Nat} {q : BJ} (hq : v.m[i]? = some q) : jst q.2 := ((st_eq v).1 h).2.2.2.2 q (List.mem_of_getElem? hq)
theorem may_st0 [GLay] : ∀ (n : Nat) (v : JV), (jsize v).toNat ≤ n → jmay v → jst v
  | 0, v, h, _ => by have := jsize_pos v; omega
  | n + 1, v, h, hm => by
    have h1 := jsize_eq v
    have h2 := lsize_nn v.l
    have h3 := msize_nn v.m
    rw [st_eq]
    refine ⟨may_nol hm, may_nom hm, may_ms hm, fun x hx => ?_, fun q hq => ?_⟩
    · obtain ⟨i, hi⟩ := List.getElem?_of_mem hx
      have := lsize_mem hi
      have := jsize_pos x
      exact may_st0 n x (by omega) (may_get hm hi)
    · obtain ⟨i, hi⟩ := List.getElem?_of_mem hq
      have := msize_mem hi
      have := jsize_pos q.2
      exact may_st0 n q.2 (by omega) (may_mget hm hi)
theorem may_st [GLay] {v : JV} (h : jmay v) : jst v := may_st0 _ v (Nat.le_refl _) h
end Lg
namespace Lg
open Go
section
variable {last : Bool} {op : Int} {k : Nat} {x y : JV} {l : List JV}
end
section
variable [GLay] {last : Bool} {op : Int} {key : ByteArray} {x : JV} {f : JV → JV}
theorem blt_ne {a b : ByteArray} (h : blt a b = true) : ¬ a = b := fun e => by subst e; rw [blt_irr] at h; cases h
end
end Lg
namespace Lg
open Go
variable [GLay]
variable {op : Int} {x : JV} {g : JV → JV × Bool} {r0 : List BL}
end Lg
namespace Lg
open Go
variable [GLay]
end Lg
namespace Lg
end Lg
namespace Lg
open Go
end Lg
namespace Lg
open Go
section
variable [GLay] {key : ByteArray} {x y : JV}
end
section
variable [GLay] {nm : BL} {r : List BL} {v : JV}
end
section
variable [GLay] {g : JV → JV × Bool}
end
section
variable [GLay] {nm : BL} {x u : JV}
theorem itoa_ix {n : Nat} (h : n ≤ 1000000) : ¬ jixB (Lib.itoa (n : Int)) ∧ valL 0 (Lib.itoa (n : Int)) = n := by
  rw [itoa_pos (by omega), Int.toNat_natCast]
  obtain ⟨h1, h2, h3, h4⟩ := dd_facts n
  refine ⟨?_, h2⟩
  have hr : runl (ba (Lib.decDigits n)) 0 = (Lib.decDigits n).length := aD_run.1 h1
  have hl := dd_len n 6 (by omega)
  rintro (e | e | ⟨e1, e2⟩ | e)
  · exact h3 e
  · exact e hr
  · have hn : ¬ n < 10 := fun hn => by rw [dd_small hn] at e1; simp at e1
    have := h4 (by omega)
    apply this
    cases hd : Lib.decDigits n with
    | nil => exact absurd hd h3
    | cons c r =>
      rw [hd] at e2
      have : bat (ba (c :: r)) 0 = c := by rw [bat_ba]; rfl
      rw [this] at e2
      have : c = 48 := UInt8.toNat_inj.1 e2
      rw [this]; rfl
  · omega
end
section
variable [GLay] {x z v : JV} {l0 : List BL} {nm : BL}
end
end Lg
namespace Lg
open Go
end Lg
namespace Lg
open Go
section
variable [GLay] {g : JV → JV × Bool} {C : Int}
end
structure OPB (o : JOp) : Prop where
  lo : 1 ≤ o.op
  hi : o.op ≤ 6
  jb : Lg.jb o.v
  st : jst o.v
  sz : jsize o.v ≤ 3000
  pa : o.pa.length ≤ 2000000
  fr : o.fr.length ≤ 2000000
  pan : ∀ n ∈ o.pa, n.length ≤ 1000000
  frn : ∀ n ∈ o.fr, n.length ≤ 1000000
section
variable [GLay] {v : JV} {o : JOp}
theorem shw_inj {a b : List BL} : ba (shw a) = ba (shw b) ↔ a = b := by
  constructor
  · intro h
    have h1 := congrArg (fun x => x.data.toList) h
    simp only [ba_toList] at h1
    have h2 := congrArg pN h1
    rwa [(pN_shw a).2, (pN_shw b).2] at h2
  · intro h; rw [h]
end
end Lg
namespace Lg
open Go Go.RowKit
variable [GLay]
section
variable {P : Program} {N : Nat} {ops : Array Oper} {tb : Array Nat} {QR : Env → List AO → Prop} {X : AV → List AO → Prop} {i : Nat} {e : Env} {o : Oper} {σ : List AO} {past : List (Nat × List AO)} {held : List (Nat × (List AO → Prop))}
end
end Lg
namespace Lg
open Go Go.RowKit
variable [GLay]
end Lg
namespace Lg
open Go
structure JKid where
  key : ByteArray
  node : Int
structure JKey where
  name : ByteArray
  v : JV
  kids : List JKid
structure JNode where
  path : ByteArray
  all : Bool
  pass : Bool
  keys : List JKey
def kidc (k : JKid) : List AV := [.str k.key, .int .i64 k.node]
def kidr (l : List JKid) : List (List AV) := l.map kidc
def keyc (k : JKey) : List AV := .str k.name :: (vcells k.v ++ [.sl false 2 (kidr k.kids)])
def keyr (l : List JKey) : List (List AV) := l.map keyc
def nodec (n : JNode) : List AV := [.str n.path, .bool n.all, .bool n.pass, .sl false 10 (keyr n.keys)]
def noder (l : List JNode) : List (List AV) := l.map nodec
theorem keyc_eq (k : JKey) : keyc k = [.str k.name, .int .i64 k.v.kind, .bool k.v.b, .bool k.v.n.neg, .str k.v.n.digits, .int .i64 k.v.n.exp, .str k.v.s, .sl false 8 (lcells k.v.l), .sl false 9 (mcells k.v.m), .sl false 2 (kidr k.kids)] := by
  rw [keyc, vcells_eq]; rfl
theorem kidr_len (l : List JKid) : (kidr l).length = l.length := by simp [kidr]
theorem keyr_len (l : List JKey) : (keyr l).length = l.length := by simp [keyr]
theorem noder_len (l : List JNode) : (noder l).length = l.length := by simp [noder]
theorem kidr_el (l : List JKid) : ∀ r ∈ kidr l, r.length = 2 := by
  intro r hr; simp [kidr] at hr; obtain ⟨x, _, rfl⟩ := hr; rfl
theorem keyr_el (l : List JKey) : ∀ r ∈ keyr l, r.length = 10 := by
  intro r hr; simp [keyr] at hr; obtain ⟨x, _, rfl⟩ := hr; rw [keyc_eq]; rfl
theorem noder_el (l : List JNode) : ∀ r ∈ noder l, r.length = 4 := by
  intro r hr; simp [noder] at hr; obtain ⟨x, _, rfl⟩ := hr; rfl
theorem noder_get {l : List JNode} {i : Nat} {x : JNode} (h : l[i]? = some x) : (noder l)[i]? = some (nodec x) := by simp [noder, h]
theorem keyr_get {l : List JKey} {i : Nat} {x : JKey} (h : l[i]? = some x) : (keyr l)[i]? = some (keyc x) := by simp [keyr, h]
theorem kidr_get {l : List JKid} {i : Nat} {x : JKid} (h : l[i]? = some x) : (kidr l)[i]? = some (kidc x) := by simp [kidr, h]
section
variable [GLay]
theorem dflat_len (l : List JKid) : (kidr l).flatten.length = l.length * 2 := by rw [flatten_len (kidr_el l), kidr_len]
theorem yflat_len (l : List JKey) : (keyr l).flatten.length = l.length * 10 := by rw [flatten_len (keyr_el l), keyr_len]
theorem nflat_len (l : List JNode) : (noder l).flatten.length = l.length * 4 := by rw [flatten_len (noder_el l), noder_len]
theorem kidr_snoc (l : List JKid) (x : JKid) : (kidr (l ++ [x])).flatten = (kidr l).flatten ++ kidc x := by simp [kidr]
theorem keyr_snoc (l : List JKey) (x : JKey) : (keyr (l ++ [x])).flatten = (keyr l).flatten ++ keyc x := by simp [keyr]
theorem noder_snoc (l : List JNode) (x : JNode) : (noder (l ++ [x])).flatten = (noder l).flatten ++ nodec x := by simp [noder]
@[simp] theorem kidr_lt (n : Nat) (l : List JKid) : AV.ltLL n (kidr l) := by
  rw [AV.ltLL_iff]; intro e he; simp [kidr] at he; obtain ⟨x, _, rfl⟩ := he; exact ⟨trivial, trivial, trivial⟩
@[simp] theorem keyc_lt (n : Nat) (k : JKey) : AV.ltL n (keyc k) := by
  rw [keyc_eq]; exact ⟨trivial, trivial, trivial, trivial, trivial, trivial, trivial, lcells_lt n _, mcells_lt n _, kidr_lt n _, trivial⟩
@[simp] theorem keyr_lt (n : Nat) (l : List JKey) : AV.ltLL n (keyr l) := by
  rw [AV.ltLL_iff]; intro e he; simp [keyr] at he; obtain ⟨x, _, rfl⟩ := he; exact keyc_lt n x
@[simp] theorem noder_lt (n : Nat) (l : List JNode) : AV.ltLL n (noder l) := by
  rw [AV.ltLL_iff]; intro e he; simp [noder] at he; obtain ⟨x, _, rfl⟩ := he; exact ⟨trivial, trivial, trivial, keyr_lt n _, trivial⟩
theorem fl_lt {n : Nat} {es : List (List AV)} (h : AV.ltLL n es) : AV.ltL n es.flatten := by
  rw [AV.ltL_iff]; intro a ha
  obtain ⟨e, he, h1⟩ := List.mem_flatten.1 ha
  exact (AV.ltL_iff _ _).1 ((AV.ltLL_iff _ _).1 h e he) a h1
@[simp] theorem dflat_lt (n : Nat) (l : List JKid) : AV.ltL n (kidr l).flatten := fl_lt (kidr_lt n l)
@[simp] theorem yflat_lt (n : Nat) (l : List JKey) : AV.ltL n (keyr l).flatten := fl_lt (keyr_lt n l)
@[simp] theorem nflat_lt (n : Nat) (l : List JNode) : AV.ltL n (noder l).flatten := fl_lt (noder_lt n l)
end
structure MS where
  l : List JNode
  bad : Int
  path : ByteArray
def pth (n : ByteArray) : ByteArray := ba (shw [n.data.toList])
def rkids (f : ByteArray → JV → MS → MS) (under : ByteArray) (single : Bool) : List BJ → MS → List JKid × MS
  | [], m => ([], m)
  | (k, x) :: r, m => (⟨k, m.l.length⟩ :: (rkids f under single r (f (if single = true then under else under ++ pth k) x m)).1, (rkids f under single r (f (if single = true then under else under ++ pth k) x m)).2)
noncomputable def rmems (f : ByteArray → JV → MS → MS) (path : ByteArray) : List BJ → List JKey → MS → Bool × List JKey × MS
  | [], ks, m => (false, ks, m)
  | (nm, x) :: r, ks, m => if ¬ m.bad = 0 then (false, ks, m) else if ¬ rShape nm x = 0 then (true, ks, ⟨m.l, rShape nm x, path ++ pth nm⟩) else
    rmems f path r (ks ++ [⟨nm, x, (rkids f (path ++ pth nm) (decide (rk nm = 8)) (kidsM nm x) m).1⟩]) (rkids f (path ++ pth nm) (decide (rk nm = 8)) (kidsM nm x) m).2
def setk (l : List JNode) (i : Nat) (ks : List JKey) : List JNode := l.modify i fun n => ⟨n.path, n.all, n.pass, ks⟩
def m1 (m : MS) (path : ByteArray) (v : JV) : MS := ⟨m.l ++ [⟨path, decide (v.kind = 1), v.b, []⟩], m.bad, m.path⟩
noncomputable def rnd : Nat → ByteArray → JV → MS → MS
  | 0, _, _, m => m
  | n + 1, path, v, m => if ¬ m.bad = 0 then m else if m.l.length = 200 then ⟨m.l, 5, path⟩ else
    if (rmems (rnd n) path v.m [] (m1 m path v)).1 = true then (rmems (rnd n) path v.m [] (m1 m path v)).2.2 else
      ⟨setk (rmems (rnd n) path v.m [] (m1 m path v)).2.2.l m.l.length (rmems (rnd n) path v.m [] (m1 m path v)).2.1, (rmems (rnd n) path v.m [] (m1 m path v)).2.2.bad, (rmems (rnd n) path v.m [] (m1 m path v)).2.2.path⟩
theorem rnd_b {n : Nat} {path : ByteArray} {v : JV} {m : MS} (h : ¬ m.bad = 0) : rnd (n + 1) path v m = m := by rw [rnd, if_pos h]
theorem rnd_m {n : Nat} {path : ByteArray} {v : JV} {m : MS} (h : m.bad = 0) (hl : m.l.length = 200) : rnd (n + 1) path v m = ⟨m.l, 5, path⟩ := by rw [rnd, if_neg (fun z => z h), if_pos hl]
theorem rnd_t {n : Nat} {path : ByteArray} {v : JV} {m : MS} {ks : List JKey} {m' : MS} (h : m.bad = 0) (hl : ¬ m.l.length = 200) (hr : rmems (rnd n) path v.m [] (m1 m path v) = (true, ks, m')) : rnd (n + 1) path v m = m' := by rw [rnd, if_neg (fun z => z h), if_neg hl, hr, if_pos rfl]
theorem rnd_f {n : Nat} {path : ByteArray} {v : JV} {m : MS} {ks : List JKey} {m' : MS} (h : m.bad = 0) (hl : ¬ m.l.length = 200) (hr : rmems (rnd n) path v.m [] (m1 m path v) = (false, ks, m')) : rnd (n + 1) path v m = ⟨setk m'.l m.l.length ks, m'.bad, m'.path⟩ := by rw [rnd, if_neg (fun z => z h), if_neg hl, hr, if_neg (fun z => by cases z)]
theorem rmems_e {f : ByteArray → JV → MS → MS} {path : ByteArray} {r : List BJ} {ks : List JKey} {m : MS} (h : r = [] ∨ ¬ m.bad = 0) : rmems f path r ks m = (false, ks, m) := by
  cases r with
  | nil => rfl
  | cons q r => obtain ⟨a, b⟩ := q; rw [rmems, if_pos (h.resolve_left (by simp))]
theorem rmems_s {f : ByteArray → JV → MS → MS} {path nm : ByteArray} {x : JV} {r : List BJ} {ks : List JKey} {m : MS} (h : m.bad = 0) (hs : ¬ rShape nm x = 0) : rmems f path ((nm, x) :: r) ks m = (true, ks, ⟨m.l, rShape nm x, path ++ pth nm⟩) := by rw [rmems, if_neg (fun z => z h), if_pos hs]
theorem rmems_k {f : ByteArray → JV → MS → MS} {path nm : ByteArray} {x : JV} {r : List BJ} {ks : List JKey} {m m' : MS} {kd : List JKid} (h : m.bad = 0) (hs : rShape nm x = 0) (hk : rkids f (path ++ pth nm) (decide (rk nm = 8)) (kidsM nm x) m = (kd, m')) : rmems f path ((nm, x) :: r) ks m = rmems f path r (ks ++ [⟨nm, x, kd⟩]) m' := by rw [rmems, if_neg (fun z => z h), if_neg (fun z => z hs), hk]
def LenOK (f : ByteArray → JV → MS → MS) : Prop := ∀ p x m, m.l.length ≤ 200 → m.l.length ≤ (f p x m).l.length ∧ (f p x m).l.length ≤ 200
theorem rkids_ok {f : ByteArray → JV → MS → MS} (hf : LenOK f) (under : ByteArray) (sg : Bool) : ∀ (r : List BJ) (m : MS), m.l.length ≤ 200 → m.l.length ≤ (rkids f under sg r m).2.l.length ∧ (rkids f under sg r m).2.l.length ≤ 200
  | [], m, h => ⟨Nat.le_refl _, h⟩
  | (k, x) :: r, m, h => by
    have h1 := hf (if sg = true then under else under ++ pth k) x m h
    have h2 := rkids_ok hf under sg r _ h1.2
    rw [rkids]; exact ⟨Nat.le_trans h1.1 h2.1, h2.2⟩
theorem rmems_ok {f : ByteArray → JV → MS → MS} (hf : LenOK f) (path : ByteArray) : ∀ (r : List BJ) (ks : List JKey) (m : MS), m.l.length ≤ 200 → m.l.length ≤ (rmems f path r ks m).2.2.l.length ∧ (rmems f path r ks m).2.2.l.length ≤ 200
  | [], ks, m, h => ⟨Nat.le_refl _, h⟩
  | (nm, x) :: r, ks, m, h => by
    rw [rmems]
    split
    · exact ⟨Nat.le_refl _, h⟩
    · split
      · exact ⟨Nat.le_refl _, h⟩
      · have h1 := rkids_ok hf (path ++ pth nm) (decide (rk nm = 8)) (kidsM nm x) m h
        have h2 := rmems_ok hf path r (ks ++ [⟨nm, x, (rkids f (path ++ pth nm) (decide (rk nm = 8)) (kidsM nm x) m).1⟩]) _ h1.2
        exact ⟨Nat.le_trans h1.1 h2.1, h2.2⟩
theorem setk_len (l : List JNode) (i : Nat) (ks : List JKey) : (setk l i ks).length = l.length := by simp [setk]
theorem rnd_ok : ∀ n, LenOK (rnd n)
  | 0, p, x, m, h => ⟨Nat.le_refl _, h⟩
  | n + 1, p, x, m, h => by
    by_cases hb : m.bad = 0
    · by_cases hl : m.l.length = 200
      · rw [rnd_m hb hl]; exact ⟨Nat.le_refl _, h⟩
      · have hm : (m1 m p x).l.length = m.l.length + 1 := by simp [m1]
        have h1 := rmems_ok (rnd_ok n) p x.m [] (m1 m p x) (by omega)
        cases hr : rmems (rnd n) p x.m [] (m1 m p x) with
        | mk b q =>
          obtain ⟨ks, m'⟩ := q
          rw [hr] at h1
          simp only at h1
          cases b with
          | true => rw [rnd_t hb hl hr]; omega
          | false => rw [rnd_f hb hl hr]; show m.l.length ≤ (setk m'.l m.l.length ks).length ∧ (setk m'.l m.l.length ks).length ≤ 200; rw [setk_len]; omega
    · rw [rnd_b hb]; exact ⟨Nat.le_refl _, h⟩
section
variable [GLay]
theorem setk_cells : ∀ (l : List JNode) (i : Nat) (ks : List JKey), i < l.length → (noder l).flatten.set (i * 4 + 3) (.sl false 10 (keyr ks)) = (noder (setk l i ks)).flatten
  | [], i, ks, h => by simp at h
  | a :: r, 0, ks, _ => by simp [noder, setk, nodec]
  | a :: r, i + 1, ks, h => by
    have ih := setk_cells r i ks (by simpa using h)
    have e1 : (noder (a :: r)).flatten = nodec a ++ (noder r).flatten := by simp [noder]
    have e2 : (noder (setk (a :: r) (i + 1) ks)).flatten = nodec a ++ (noder (setk r i ks)).flatten := by simp [noder, setk]
    rw [e1, e2, ← ih, List.set_append_right _ _ (by show 4 ≤ _; omega)]
    congr 1
    show List.set _ ((i + 1) * 4 + 3 - 4) _ = _
    congr 1; omega
theorem pth_size (n : ByteArray) : (pth n).size ≤ 2 * n.size + 1 := by
  have h : n.data.toList.length = n.size := Array.length_toList ..
  have h2 := shw_len n.size [n.data.toList] (by intro x hx; rw [List.mem_singleton.1 hx]; omega)
  unfold pth; rw [ba_size]
  simp only [List.length_singleton, Nat.one_mul] at h2; exact h2
end
end Lg
namespace Lg
open Go
section
variable [GLay]
theorem rmems_sq {f : ByteArray → JV → MS → MS} {path : ByteArray} {q : BJ} {r : List BJ} {ks : List JKey} {m : MS} (h : m.bad = 0) (hs : ¬ rShape q.1 q.2 = 0) : rmems f path (q :: r) ks m = (true, ks, ⟨m.l, rShape q.1 q.2, path ++ pth q.1⟩) := by
  obtain ⟨a, b⟩ := q; exact rmems_s h hs
theorem rmems_kq {f : ByteArray → JV → MS → MS} {path : ByteArray} {q : BJ} {r : List BJ} {ks : List JKey} {m m' : MS} {kd : List JKid} (h : m.bad = 0) (hs : rShape q.1 q.2 = 0) (hk : rkids f (path ++ pth q.1) (decide (rk q.1 = 8)) (kidsM q.1 q.2) m = (kd, m')) : rmems f path (q :: r) ks m = rmems f path r (ks ++ [⟨q.1, q.2, kd⟩]) m' := by
  obtain ⟨a, b⟩ := q; exact rmems_k h hs hk
theorem rkids_q {f : ByteArray → JV → MS → MS} {under : ByteArray} {sg : Bool} {k : BJ} {r : List BJ} {m : MS} : rkids f under sg (k :: r) m = (⟨k.1, m.l.length⟩ :: (rkids f under sg r (f (if sg = true then under else under ++ pth k.1) k.2 m)).1, (rkids f under sg r (f (if sg = true then under else under ++ pth k.1) k.2 m)).2) := by
  obtain ⟨a, b⟩ := k; rw [rkids]
theorem zi_get {l : List JV} {i : Nat} {q : BJ} (h : (l.zipIdx.map fun q => (itoaB q.2, q.1))[i]? = some q) : q.1.size ≤ 21 ∨ 2000000000 < i := by
  rw [List.getElem?_map, List.getElem?_zipIdx] at h
  cases hx : l[i]? with
  | none => rw [hx] at h; cases h
  | some x =>
    rw [hx] at h
    simp only [Option.map_some, Option.some.injEq] at h
    subst h
    by_cases hi : i ≤ 2000000000
    · left; exact itoa_size (by omega) (by omega)
    · right; omega
theorem kids_ks {n : ByteArray} {v : JV} (hv : jb v) {i : Nat} {q : BJ} (h : (kidsM n v)[i]? = some q) : q.1.size ≤ 1000000 := by
  unfold kidsM at h
  have hb := (jb_eq v).1 hv
  split at h
  · cases i with
    | zero => simp at h; subst h; show e0.size ≤ 1000000; decide
    | succ i => simp at h
  · split at h
    · exact (mb_get hb.2.2.2.2.2 h).1
    · split at h
      · have hlt := (List.getElem?_eq_some_iff.1 h).1
        simp at hlt
        rcases zi_get h with h1 | h1
        · omega
        · have := hb.2.2.1; omega
      · simp at h
end
end Lg
namespace Lg
open Go
noncomputable def rnode (v : JV) : MS := rnd (jsize v).toNat e0 v ⟨[], 0, e0⟩
noncomputable def jcomp (v : JV) : List JNode × Int × ByteArray := if schB v = false then ([], 14, e0) else if ¬ (rnode v).bad = 0 then ([], (rnode v).bad, (rnode v).path) else ((rnode v).l, 0, e0)
theorem jcomp_n {v : JV} (h : schB v = false) : jcomp v = ([], 14, e0) := by unfold jcomp; rw [if_pos h]
theorem jcomp_b {v : JV} (h : schB v = true) (hb : ¬ (rnode v).bad = 0) : jcomp v = ([], (rnode v).bad, (rnode v).path) := by unfold jcomp; rw [if_neg (by rw [h]; decide), if_pos hb]
theorem jcomp_y {v : JV} (h : schB v = true) (hb : (rnode v).bad = 0) : jcomp v = ((rnode v).l, 0, e0) := by unfold jcomp; rw [if_neg (by rw [h]; decide), if_neg (fun z => z hb)]
end Lg
namespace Lg
open Go
section
variable [GLay]
def KR (nn : Nat) (n : JNode) : Prop := ∀ k ∈ n.keys, ∀ d ∈ k.kids, 0 ≤ d.node ∧ d.node < nn
def DR (nn : Nat) (l : List JKid) : Prop := ∀ d ∈ l, 0 ≤ d.node ∧ d.node < nn
def YR (nn : Nat) (l : List JKey) : Prop := ∀ k ∈ l, DR nn k.kids
theorem KR_mono {a b : Nat} {n : JNode} (h : KR a n) (hab : a ≤ b) : KR b n := fun k hk d hd => ⟨(h k hk d hd).1, by have := (h k hk d hd).2; omega⟩
theorem YR_mono {a b : Nat} {n : List JKey} (h : YR a n) (hab : a ≤ b) : YR b n := fun k hk d hd => ⟨(h k hk d hd).1, by have := (h k hk d hd).2; omega⟩
def YZ (l : List JKey) : Prop := ∀ k ∈ l, k.name.size ≤ 1000000 ∧ jb k.v ∧ k.kids.length ≤ 1000000
def KZ (n : JNode) : Prop := n.keys.length ≤ 1000000 ∧ YZ n.keys
def nml (q : ByteArray) : BL := q.data.toList
theorem nml_inj {a b : ByteArray} (h : nml a = nml b) : a = b := by
  cases a; cases b; simp only [nml] at h; congr 1; exact Array.toList_inj.1 h
theorem pth_app (ns : List BL) (n : ByteArray) : ba (shw ns) ++ pth n = ba (shw (ns ++ [nml n])) := by
  rw [pth, ba_app, shw_app]; rfl
structure Adds (m m' : MS) (B : Nat) (ext : List JNode) (nss : List (List BL)) : Prop where
  l : m'.l = m.l ++ ext
  kr : ∀ n ∈ ext, KR m'.l.length n
  pa : ext.map JNode.path = nss.map fun q => ba (shw q)
  sz : ∀ n ∈ ext, n.path.size ≤ B
  kz : ∀ n ∈ ext, KZ n
  nd : nss.Nodup
def NodeOK (n : Nat) (f : ByteArray → JV → MS → MS) : Prop := ∀ (ns : List BL) (x : JV) (m : MS), jb x → jst x → (jsize x).toNat ≤ n → (f (ba (shw ns)) x m).bad = 0 → m.bad = 0 ∧ ∃ ext nss, Adds m (f (ba (shw ns)) x m) ((ba (shw ns)).size + 4000002 * (jsize x).toNat) ext nss ∧ ext ≠ [] ∧ ∀ q ∈ nss, ns <+: q
theorem pre_eq {a : List BL} {x y : BL} {q : List BL} (h : a ++ [x] <+: q) (k : a ++ [y] <+: q) : x = y := by
  have := List.prefix_of_prefix_length_le h k (by simp)
  have h2 := this.eq_of_length (by simp)
  simpa using h2
theorem Adds_app {m m1 m2 : MS} {B : Nat} {e1 e2 : List JNode} {n1 n2 : List (List BL)} (h1 : Adds m m1 B e1 n1) (h2 : Adds m1 m2 B e2 n2) (hd : ∀ q ∈ n1, q ∉ n2) : Adds m m2 B (e1 ++ e2) (n1 ++ n2) where
  l := by rw [h2.l, h1.l, List.append_assoc]
  kr := by
    intro n hn
    have hle : m1.l.length ≤ m2.l.length := by rw [h2.l]; simp
    rcases List.mem_append.1 hn with h | h
    · exact KR_mono (h1.kr n h) hle
    · exact h2.kr n h
  pa := by rw [List.map_append, List.map_append, h1.pa, h2.pa]
  sz := by
    intro n hn
    rcases List.mem_append.1 hn with h | h
    · exact h1.sz n h
    · exact h2.sz n h
  kz := by
    intro n hn
    rcases List.mem_append.1 hn with h | h
    · exact h1.kz n h
    · exact h2.kz n h
  nd := by
    rw [List.nodup_append]
    exact ⟨h1.nd, h2.nd, fun a ha b hb e => hd a ha (e ▸ hb)⟩
theorem Adds_le {m m' : MS} {B C : Nat} {e : List JNode} {n : List (List BL)} (h : Adds m m' B e n) (hbc : B ≤ C) : Adds m m' C e n := ⟨h.l, h.kr, h.pa, fun n hn => Nat.le_trans (h.sz n hn) hbc, h.kz, h.nd⟩
theorem Adds_nil (m : MS) (B : Nat) : Adds m m B [] [] := ⟨by simp, by simp, rfl, by simp, by simp, List.nodup_nil⟩
theorem rkids_len (f : ByteArray → JV → MS → MS) (u : ByteArray) (sg : Bool) : ∀ (r : List BJ) (m : MS), (rkids f u sg r m).1.length = r.length
  | [], m => rfl
  | (k, x) :: r, m => by rw [rkids]; simp [rkids_len f u sg r]
theorem rkids_add {n : Nat} {f : ByteArray → JV → MS → MS} (hf : NodeOK n f) (us : List BL) (sg : Bool) (S : Nat) (hS : S ≤ n) : ∀ (r : List BJ) (m : MS), (∀ q ∈ r, q.1.size ≤ 1000000 ∧ jb q.2 ∧ jst q.2 ∧ (jsize q.2).toNat ≤ S) → (r.map (·.1)).Nodup → (sg = true → r.length ≤ 1) → (rkids f (ba (shw us)) sg r m).2.bad = 0 →
    m.bad = 0 ∧ DR (rkids f (ba (shw us)) sg r m).2.l.length (rkids f (ba (shw us)) sg r m).1 ∧ ∃ ext nss, Adds m (rkids f (ba (shw us)) sg r m).2 ((ba (shw us)).size + 2000001 + 4000002 * S) ext nss ∧ ∀ q ∈ nss, ∃ k ∈ r, (if sg = true then us else us ++ [nml k.1]) <+: q
  | [], m, _, _, _, hb => ⟨hb, (fun d hd => by simp [rkids] at hd : ∀ d ∈ (rkids f (ba (shw us)) sg [] m).1, _), [], [], Adds_nil _ _, fun q hq => by cases hq⟩
  | (k, x) :: r, m, hr, hn, hsg, hb => by
    have hx := hr (k, x) (.head _)
    simp only at hx
    have hn1 := List.nodup_cons.1 hn
    rw [rkids] at hb ⊢
    simp only at hb ⊢
    have hnx : (if sg = true then ba (shw us) else ba (shw us) ++ pth k) = ba (shw (if sg = true then us else us ++ [nml k])) := by
      split
      · rfl
      · exact pth_app us k
    have hsz : (ba (shw (if sg = true then us else us ++ [nml k]))).size ≤ (ba (shw us)).size + 2000001 := by
      rw [← hnx]
      split
      · omega
      · have := pth_size k; rw [ByteArray.size_append]; omega
    rw [hnx] at hb ⊢
    generalize hm1 : f (ba (shw (if sg = true then us else us ++ [nml k]))) x m = q1 at hb ⊢
    obtain ⟨i1, i2, ext2, nss2, a2, p2⟩ := rkids_add hf us sg S hS r q1 (fun q hq => hr q (.tail _ hq)) hn1.2 (fun h => by have := hsg h; simp at this; simp [this]) hb
    obtain ⟨j1, ext1, nss1, a1, ne, p1⟩ := hf (if sg = true then us else us ++ [nml k]) x m hx.2.1 hx.2.2.1 (by omega) (by rw [hm1]; exact i1)
    rw [hm1] at a1
    have a1' := Adds_le a1 (C := (ba (shw us)).size + 2000001 + 4000002 * S) (by
      have h4 : 4000002 * (jsize x).toNat ≤ 4000002 * S := Nat.mul_le_mul_left _ hx.2.2.2
      omega)
    refine ⟨j1, ?_, ext1 ++ ext2, nss1 ++ nss2, Adds_app a1' a2 ?_, ?_⟩
    · intro d hd
      rcases List.mem_cons.1 hd with rfl | hd
      · refine ⟨by simp, ?_⟩
        have h3 := a2.l
        have h4 := a1.l
        have h5 : 0 < ext1.length := List.length_pos_iff.2 ne
        rw [h3, h4]; simp only [List.length_append]; omega
      · exact i2 d hd
    · intro q hq hq2
      obtain ⟨k', hk', hpk⟩ := p2 q hq2
      have h1 := p1 q hq
      cases sg with
      | true =>
        have := hsg rfl
        simp at this
        subst this
        cases hk'
      | false =>
        simp only [Bool.false_eq_true, if_false] at h1 hpk
        have := nml_inj (pre_eq h1 hpk)
        exact hn1.1 (List.mem_map.2 ⟨k', hk', this.symm⟩)
    · intro q hq
      rcases List.mem_append.1 hq with h | h
      · exact ⟨(k, x), .head _, p1 q h⟩
      · obtain ⟨k', hk', hp⟩ := p2 q h
        exact ⟨k', .tail _ hk', hp⟩
theorem ms_nodup {m : List BJ} (h : msorted m) : (m.map (·.1)).Nodup := by
  rw [List.Nodup, List.pairwise_map]
  exact h.imp fun hb => blt_ne hb
theorem kZ_nodup {l : List JV} (h : l.length ≤ 1000000) : ((l.zipIdx.map fun q => (itoaB q.2, q.1)).map (·.1)).Nodup := by
  rw [List.map_map, List.Nodup, List.pairwise_map]
  have h1 : (l.zipIdx).Pairwise (fun a b => ¬ a.2 = b.2) := by
    have h2 : (l.zipIdx.map (·.2)).Nodup := by rw [List.zipIdx_map_snd]; exact List.nodup_range'
    rw [List.Nodup, List.pairwise_map] at h2
    exact h2
  refine h1.imp_of_mem fun {a b} ha hb hab e => hab ?_
  have ha2 : a.2 < l.length := by have := List.mem_zipIdx (x := a.1) (i := a.2) ha; omega
  have hb2 : b.2 < l.length := by have := List.mem_zipIdx (x := b.1) (i := b.2) hb; omega
  have e' : Lib.itoa (a.2 : Int) = Lib.itoa (b.2 : Int) := ba_inj.1 e
  have e1 := (itoa_ix (by omega : a.2 ≤ 1000000)).2
  have e2 := (itoa_ix (by omega : b.2 ≤ 1000000)).2
  rw [e'] at e1; exact_mod_cast e1.symm.trans e2
theorem kids_nodup {n : ByteArray} {v : JV} (hv : jb v) (hs : jst v) : ((kidsM n v).map (·.1)).Nodup := by
  unfold kidsM
  split
  · simp
  · split
    · exact ms_nodup (st_ms hs)
    · split
      · exact kZ_nodup ((jb_eq v).1 hv).2.2.1
      · simp
theorem kids_st {n : ByteArray} {v : JV} (hs : jst v) {i : Nat} {q : BJ} (h : (kidsM n v)[i]? = some q) : jst q.2 := by
  unfold kidsM at h
  split at h
  · have hi := (List.getElem?_eq_some_iff.1 h).1
    have : i = 0 := by simp at hi; exact hi
    subst this
    cases h
    exact hs
  · split at h
    · exact st_mget hs h
    · split at h
      · exact st_get hs (kZ_get (l := v.l) h)
      · simp at h
theorem rmems_add {n : Nat} {f : ByteArray → JV → MS → MS} (hf : NodeOK n f) (ns : List BL) (S : Nat) (hS : S ≤ n) : ∀ (r : List BJ) (ks : List JKey) (m : MS), (∀ q ∈ r, q.1.size ≤ 1000000 ∧ jb q.2 ∧ jst q.2 ∧ (jsize q.2).toNat ≤ S) → (r.map (·.1)).Nodup → (rmems f (ba (shw ns)) r ks m).2.2.bad = 0 →
    m.bad = 0 ∧ (rmems f (ba (shw ns)) r ks m).1 = false ∧ (YR m.l.length ks → YR (rmems f (ba (shw ns)) r ks m).2.2.l.length (rmems f (ba (shw ns)) r ks m).2.1) ∧ (YZ ks → YZ (rmems f (ba (shw ns)) r ks m).2.1) ∧ (rmems f (ba (shw ns)) r ks m).2.1.length ≤ ks.length + r.length ∧ ∃ ext nss, Adds m (rmems f (ba (shw ns)) r ks m).2.2 ((ba (shw ns)).size + 4000002 + 4000002 * S) ext nss ∧ ∀ q ∈ nss, ∃ k ∈ r, ns ++ [nml k.1] <+: q
  | [], ks, m, _, _, hb => ⟨hb, rfl, fun h => h, fun h => h, Nat.le_refl _, [], [], Adds_nil _ _, fun q hq => by cases hq⟩
  | (nm, x) :: r, ks, m, hr, hn, hb => by
    have hx := hr (nm, x) (.head _)
    simp only at hx
    have hn1 := List.nodup_cons.1 hn
    by_cases hm : m.bad = 0
    rotate_left
    · rw [rmems_e (.inr hm)] at hb; exact absurd hb hm
    by_cases hsh : rShape nm x = 0
    rotate_left
    · rw [rmems_s hm hsh] at hb; exact absurd hb hsh
    cases hk : rkids f (ba (shw ns) ++ pth nm) (decide (rk nm = 8)) (kidsM nm x) m with
    | mk kd q1 =>
      rw [rmems_k hm hsh hk] at hb ⊢
      obtain ⟨i1, i2, i3, i4, i5, ext2, nss2, a2, p2⟩ := rmems_add hf ns S hS r (ks ++ [⟨nm, x, kd⟩]) q1 (fun q hq => hr q (.tail _ hq)) hn1.2 hb
      rw [pth_app] at hk
      have hk2 := rkids_add hf (ns ++ [nml nm]) (decide (rk nm = 8)) S hS (kidsM nm x) m (fun q hq => by
        obtain ⟨i, hi⟩ := List.mem_iff_getElem?.1 hq
        have h1 := kids_jb hx.2.1 hi
        exact ⟨kids_ks hx.2.1 hi, h1.1, kids_st hx.2.2.1 hi, by have := h1.2; omega⟩) (kids_nodup hx.2.1 hx.2.2.1) (fun h => by rw [kids_one (of_decide_eq_true h)]; exact Nat.le_refl 1)
      rw [hk] at hk2
      obtain ⟨j1, j2, ext1, nss1, a1, p1⟩ := hk2 i1
      have hsz : (ba (shw (ns ++ [nml nm]))).size ≤ (ba (shw ns)).size + 2000001 := by
        rw [← pth_app]; have := pth_size nm; rw [ByteArray.size_append]; omega
      have a1' := Adds_le a1 (C := (ba (shw ns)).size + 4000002 + 4000002 * S) (by omega)
      have p1' : ∀ q ∈ nss1, ns ++ [nml nm] <+: q := by
        intro q hq
        obtain ⟨k', hk', hp⟩ := p1 q hq
        split at hp
        · exact hp
        · exact (List.prefix_append _ _).trans hp
      have hkl : kd.length ≤ 1000000 := by
        have e := rkids_len f (ba (shw (ns ++ [nml nm]))) (decide (rk nm = 8)) (kidsM nm x) m
        rw [hk] at e
        have := kids_len (n := nm) hx.2.1
        simp only at e; omega
      refine ⟨j1, i2, ?_, ?_, by rw [List.length_append] at i5; simp only [List.length_cons, List.length_nil] at i5 ⊢; omega, ext1 ++ ext2, nss1 ++ nss2, Adds_app a1' a2 ?_, ?_⟩
      · intro hy
        refine i3 fun k hk3 => ?_
        rcases List.mem_append.1 hk3 with h | h
        · exact YR_mono hy (by have := a1.l; simp only at this; rw [this]; simp) k h
        · rw [List.mem_singleton.1 h]; exact j2
      · intro hy
        refine i4 fun k hk3 => ?_
        rcases List.mem_append.1 hk3 with h | h
        · exact hy k h
        · rw [List.mem_singleton.1 h]; exact ⟨hx.1, hx.2.1, hkl⟩
      · intro q hq hq2
        obtain ⟨k', hk', hpk⟩ := p2 q hq2
        have := nml_inj (pre_eq (p1' q hq) hpk)
        exact hn1.1 (List.mem_map.2 ⟨k', hk', this.symm⟩)
      · intro q hq
        rcases List.mem_append.1 hq with h | h
        · exact ⟨(nm, x), .head _, p1' q h⟩
        · obtain ⟨k', hk', hp⟩ := p2 q h
          exact ⟨k', .tail _ hk', hp⟩
theorem setk_at (x : JNode) (b : List JNode) (ks : List JKey) : ∀ a : List JNode, setk (a ++ x :: b) a.length ks = a ++ ⟨x.path, x.all, x.pass, ks⟩ :: b
  | [] => rfl
  | y :: r => by
    have := setk_at x b ks r
    simp only [setk] at this ⊢
    simp [this]
theorem rnd_add : ∀ n, NodeOK n (rnd n)
  | 0, ns, x, m, _, _, hn, _ => by have := jsize_pos x; omega
  | n + 1, ns, x, m, hjb, hst, hn, hb => by
    have hp := jsize_pos x
    by_cases hm : m.bad = 0
    rotate_left
    · rw [rnd_b hm] at hb; exact absurd hb hm
    by_cases hl : m.l.length = 200
    · rw [rnd_m hm hl] at hb; exact absurd hb (by decide : ¬ (5 : Int) = 0)
    have hmm := rmems_add (rnd_add n) ns ((jsize x).toNat - 1) (by omega) x.m [] (m1 m (ba (shw ns)) x) (fun q hq => by
      obtain ⟨i, hi⟩ := List.mem_iff_getElem?.1 hq
      have h6 := ((jb_eq x).1 hjb).2.2.2.2.2
      have h1 := mb_get h6 hi
      have h2 := msize_mem hi
      have h3 := jsize_eq x
      have h4 := lsize_nn x.l
      have h5 := jsize_pos q.2
      exact ⟨h1.1, h1.2, st_mget hst hi, by omega⟩) (ms_nodup (st_ms hst))
    cases hr : rmems (rnd n) (ba (shw ns)) x.m [] (m1 m (ba (shw ns)) x) with
    | mk b q =>
      obtain ⟨ks, m'⟩ := q
      rw [hr] at hmm
      simp only at hmm
      cases b with
      | true =>
        rw [rnd_t hm hl hr] at hb
        exact absurd (hmm hb).2.1 (by decide)
      | false =>
        rw [rnd_f hm hl hr] at hb ⊢
        obtain ⟨_, _, hy, hyz, hyl, ext, nss, a, p⟩ := hmm hb
        refine ⟨hm, ⟨ba (shw ns), decide (x.kind = 1), x.b, ks⟩ :: ext, ns :: nss, ?_, by simp, ?_⟩
        · have hal : m'.l = m.l ++ (⟨ba (shw ns), decide (x.kind = 1), x.b, []⟩ :: ext) := by
            have := a.l
            simp only [m1] at this
            rw [this, List.append_assoc]; rfl
          refine ⟨?_, ?_, ?_, ?_, ?_, ?_⟩
          · show setk m'.l m.l.length ks = _
            rw [hal, setk_at]
          · intro nn hnn
            show KR (setk m'.l m.l.length ks).length nn
            rw [setk_len]
            rcases List.mem_cons.1 hnn with rfl | h
            · exact hy (fun k hk => by cases hk)
            · exact a.kr nn h
          · simp only [List.map_cons, a.pa]
          · intro nn hnn
            rcases List.mem_cons.1 hnn with rfl | h
            · show (ba (shw ns)).size ≤ _; omega
            · have := a.sz nn h; omega
          · intro nn hnn
            rcases List.mem_cons.1 hnn with rfl | h
            · refine ⟨?_, hyz (fun k hk => by cases hk)⟩
              have h9 := ((jb_eq x).1 hjb).2.2.2.1
              simp only [List.length_nil] at hyl
              show ks.length ≤ 1000000; omega
            · exact a.kz nn h
          · refine List.nodup_cons.2 ⟨fun h => ?_, a.nd⟩
            obtain ⟨k, _, hk⟩ := p ns h
            have := hk.length_le
            simp at this
            omega
        · intro q hq
          rcases List.mem_cons.1 hq with rfl | h
          · exact List.prefix_refl _
          · obtain ⟨k, _, hk⟩ := p q h
            exact (List.prefix_append _ _).trans hk
structure NOK (l : List JNode) : Prop where
  kr : ∀ n ∈ l, KR l.length n
  nd : (l.map JNode.path).Nodup
  le : l.length ≤ 200
  sz : ∀ n ∈ l, n.path.size ≤ 100000000000
  kz : ∀ n ∈ l, KZ n
theorem jcomp_ok {v : JV} (hjb : jb v) (hst : jst v) (hsz : jsize v ≤ 10000) (h : (jcomp v).2.1 = 0) : NOK (jcomp v).1 := by
  unfold jcomp at h ⊢
  split at h
  · exact absurd h (by decide)
  · split at h
    · rename_i h1; exact absurd h h1
    · rename_i h1 h2
      have hb : (rnode v).bad = 0 := Decidable.not_not.1 h2
      rw [if_neg h1, if_neg h2]
      have he : e0 = ba (shw []) := by simp [shw]; rfl
      have := rnd_add (jsize v).toNat [] v ⟨[], 0, e0⟩ hjb hst (Nat.le_refl _)
      rw [← he] at this
      obtain ⟨_, ext, nss, a, _, _⟩ := this hb
      have hl : (rnode v).l = ext := by have := a.l; rw [List.nil_append] at this; exact this
      refine ⟨?_, ?_, ?_, ?_, ?_⟩
      · show ∀ n ∈ (rnode v).l, KR (rnode v).l.length n
        intro n hn; rw [hl] at hn; exact a.kr n hn
      · show ((rnode v).l.map JNode.path).Nodup
        rw [hl, a.pa, List.Nodup, List.pairwise_map]
        exact List.Pairwise.imp (fun hne e => hne (shw_inj.1 e)) a.nd
      · exact (rnd_ok (jsize v).toNat e0 v ⟨[], 0, e0⟩ (by decide)).2
      · show ∀ n ∈ (rnode v).l, n.path.size ≤ 100000000000
        intro n hn; rw [hl] at hn
        have h3 := a.sz n hn
        have h4 : e0.size = 0 := rfl
        rw [h4] at h3
        omega
      · show ∀ n ∈ (rnode v).l, KZ n
        intro n hn; rw [hl] at hn; exact a.kz n hn
end
end Lg
namespace Lg
open Go
def cREF : ByteArray := ⟨#[36, 114, 101, 102]⟩
def hsh : ByteArray := ⟨#[35]⟩
def cALL : ByteArray := ⟨#[97, 108, 108, 79, 102]⟩
def cANY : ByteArray := ⟨#[97, 110, 121, 79, 102]⟩
def cONE : ByteArray := ⟨#[111, 110, 101, 79, 102]⟩
def cNOT : ByteArray := ⟨#[110, 111, 116]⟩
def plc (n : ByteArray) : Bool := decide (n = cREF) || decide (n = cALL) || decide (n = cANY) || decide (n = cONE) || decide (n = cNOT)
def outD (l : List JKid) : List Nat := l.map fun d => d.node.toNat
def outK (k : JKey) : List Nat := if plc k.name = true then outD k.kids else []
def outs (l : List JKey) : List Nat := l.flatMap outK
inductive Rch (o : List JNode) : Nat → Nat → Prop
  | one {a b : Nat} {n : JNode} (hn : o[a]? = some n) (hb : b ∈ outs n.keys) : Rch o a b
  | more {a b c : Nat} {n : JNode} (h : Rch o a b) (hn : o[b]? = some n) (hc : c ∈ outs n.keys) : Rch o a c
theorem Rch.head {o : List JNode} {a b c : Nat} {n : JNode} (hn : o[a]? = some n) (hb : b ∈ outs n.keys) (h : Rch o b c) : Rch o a c := by
  induction h with
  | one hn2 hb2 => exact .more (.one hn hb) hn2 hb2
  | more _ hn2 hc ih => exact .more ih hn2 hc
theorem Rch.closed {o : List JNode} {i u : Nat} (S : Nat → Prop) (h1 : ∀ n, o[i]? = some n → ∀ b ∈ outs n.keys, S b) (h2 : ∀ a n, S a → o[a]? = some n → ∀ b ∈ outs n.keys, S b) (h : Rch o i u) : S u := by
  induction h with
  | one hn hb => exact h1 _ hn _ hb
  | more _ hn hc ih => exact h2 _ _ ih hn _ hc
def cntF (S : List Bool) : Nat := S.count false
structure Dok (o : List JNode) (i : Nat) (src : Nat → Prop) (S : List Bool) (q : Bool × List Bool) : Prop where
  len : q.2.length = S.length
  mono : ∀ u : Nat, S[u]? = some true → q.2[u]? = some true
  cnt : cntF q.2 ≤ cntF S
  yes : q.1 = true → ∃ u : Nat, src u ∧ (u = i ∨ Rch o u i)
  no : q.1 = false → (∀ u : Nat, src u → ¬ u = i ∧ q.2[u]? = some true) ∧ ∀ u : Nat, q.2[u]? = some true → ¬ S[u]? = some true → ∀ n, o[u]? = some n → ∀ v ∈ outs n.keys, ¬ v = i ∧ q.2[v]? = some true
def OR (o : List JNode) : Prop := ∀ n ∈ o, ∀ d ∈ outs n.keys, d < o.length
end Lg
namespace Lg
open Go Go.RowKit
variable [GLay]
def PastG (P : Program) (tb : Array Nat) (i : Nat) (e : Env) (o : Oper) (v : AV) : List (Nat × (Bool → List AO)) → Prop
  | [] => True
  | (j, σ) :: r => (befB tb j i = true ∨ ∀ b, AOp P (σ b) e o v (σ b)) ∧ PastG P tb i e o v r
def HeldG (tb : Array Nat) (i : Nat) (σ : Bool → List AO) : List (Nat × (List AO → Prop)) → Prop
  | [] => True
  | (k, p) :: r => (befB tb k i = true ∨ ∀ b, p (σ b)) ∧ HeldG tb i σ r
def ChainG (tb : Array Nat) (i : Nat) : List (Nat × (Bool → List AO)) → Prop
  | [] => True
  | (j, _) :: r => befB tb j i = true ∧ ChainG tb i r
inductive RT (P : Program) (N : Nat) (ops : Array Oper) (tb : Array Nat) (Q : Env → List AO → Prop) : Nat → Env → List AO → Prop
  | nil {i e σ} (hi : i = ops.size) (h : Q e σ) : RT P N ops tb Q i e σ
  | op {i e σ} (o : Oper) (v : AV) (σ' : List AO) (ho : ops[i]? = some o) (hg : GuardA ops N e o true) (hd : ∀ d, o.dst = some d → d < N) (h : AOp P σ e o v σ') (hall : ((List.range i).all fun j => befB tb j i) = true)
      (k : RT P N ops tb Q (i + 1) (e.put o.dst v) σ') : RT P N ops tb Q i e σ
def Twin (B : AO) (L : Nat) (σ : Bool → List AO) : Prop := (σ false).length = L ∧ σ true = σ false ++ [B]
inductive RG (P : Program) (N : Nat) (ops : Array Oper) (tb : Array Nat) (B : AO) (L : Nat) (Q : Env → List AO → Prop) : Nat → Env → (Bool → List AO) → List (Nat × (Bool → List AO)) → List (Nat × (List AO → Prop)) → Prop
  | pure {i e σ past held} (o : Oper) (v : AV) (ho : ops[i]? = some o) (hg : GuardA ops N e o true) (hd : ∀ d, o.dst = some d → d < N) (h : ∀ b, AOp P (σ b) e o v (σ b)) (hp : PastG P tb i e o v past)
      (k : RG P N ops tb B L Q (i + 1) (e.put o.dst v) σ past ((i, fun σ' => AOp P σ' e o v σ') :: held)) : RG P N ops tb B L Q i e σ past held
  | eff {i e σ past held} (o : Oper) (v : AV) (σ' : Bool → List AO) (ho : ops[i]? = some o) (hg : GuardA ops N e o true) (hd : ∀ d, o.dst = some d → d < N) (h : ∀ b, AOp P (σ b) e o v (σ' b)) (ht : Twin B L σ') (hh : HeldG tb i σ' held) (hc : ChainG tb i past)
      (k : RG P N ops tb B L Q (i + 1) (e.put o.dst v) σ' ((i, σ) :: past) held) : RG P N ops tb B L Q i e σ past held
  | flt {i e σ past held} (o : Oper) (ho : ops[i]? = some o) (hg : GuardA ops N e o true) (hd : ∀ d, o.dst = some d → d < N) (h : ∀ τ : List AO, τ.length = L → AOp P τ e o (.ptr L 0) (τ ++ [B]))
      (k : RT P N ops tb Q (i + 1) (e.put o.dst (.ptr L 0)) (σ true)) : RG P N ops tb B L Q i e σ past held
structure TrG (P : Program) (N : Nat) (ops : Array Oper) (tb : Array Nat) (B : AO) (L : Nat) (Q : Env → List AO → Prop) (i0 f : Nat) (E : Nat → Env) (H : Bool → Nat → List AO) (val : Nat → AV) (kd : Nat → Kd) : Prop where
  le : i0 ≤ f
  fl : f < ops.size
  twin : ∀ i, i0 ≤ i → i ≤ f → Twin B L fun b => H b i
  pre : ∀ i, i0 ≤ i → i < f → ∃ o, ops[i]? = some o ∧ (∀ d, o.dst = some d → d < N) ∧ E (i + 1) = (E i).put o.dst (val i) ∧ GuardA ops N (E i) o true ∧
    ((kd i = .pure ∧ (∀ b, AOp P (H b i) (E i) o (val i) (H b i) ∧ H b (i + 1) = H b i) ∧
      (∀ j, i0 ≤ j → j < i → kd j = .eff → befB tb j i = true ∨ ∀ b, AOp P (H b j) (E i) o (val i) (H b j)) ∧
      (∀ j, i < j → j < f → kd j = .eff → befB tb i j = true ∨ ∀ b, AOp P (H b (j + 1)) (E i) o (val i) (H b (j + 1)))) ∨
    (kd i = .eff ∧ (∀ b, AOp P (H b i) (E i) o (val i) (H b (i + 1))) ∧ (∀ j, i0 ≤ j → j < i → kd j = .eff → befB tb j i = true)))
  flt : ∃ o, ops[f]? = some o ∧ (∀ d, o.dst = some d → d < N) ∧ E (f + 1) = (E f).put o.dst (val f) ∧ GuardA ops N (E f) o true ∧ kd f = .skip ∧ (∀ b, H b (f + 1) = H b f) ∧
    ∀ τ : List AO, τ.length = L → AOp P τ (E f) o (val f) (τ ++ [B])
  tail : ∀ i, f < i → i < ops.size → ∃ o, ops[i]? = some o ∧ (∀ d, o.dst = some d → d < N) ∧ E (i + 1) = (E i).put o.dst (val i) ∧ GuardA ops N (E i) o true ∧ kd i = .eff ∧
    AOp P (H true i) (E i) o (val i) (H true (i + 1)) ∧ ∀ j, j < i → befB tb j i = true
  fin : Q (E ops.size) (H true ops.size)
section rp
variable {P : Program} {N : Nat} {ops : Array Oper} {tb : Array Nat} {Q : Env → List AO → Prop} {B : AO} {L : Nat}
theorem PastG.mem {i : Nat} {e : Env} {o : Oper} {v : AV} : ∀ {past : List (Nat × (Bool → List AO))}, PastG P tb i e o v past → ∀ q ∈ past, befB tb q.1 i = true ∨ ∀ b, AOp P (q.2 b) e o v (q.2 b)
  | [], _, q, h => by simp at h
  | (j, σ) :: r, ⟨h1, h2⟩, q, h => by
    rcases List.mem_cons.1 h with rfl | h
    · exact h1
    · exact PastG.mem h2 q h
theorem HeldG.mem {i : Nat} {σ : Bool → List AO} : ∀ {held : List (Nat × (List AO → Prop))}, HeldG tb i σ held → ∀ q ∈ held, befB tb q.1 i = true ∨ ∀ b, q.2 (σ b)
  | [], _, q, h => by simp at h
  | (j, p) :: r, ⟨h1, h2⟩, q, h => by
    rcases List.mem_cons.1 h with rfl | h
    · exact h1
    · exact HeldG.mem h2 q h
theorem ChainG.mem {i : Nat} : ∀ {past : List (Nat × (Bool → List AO))}, ChainG tb i past → ∀ q ∈ past, befB tb q.1 i = true
  | [], _, q, h => by simp at h
  | (j, σ) :: r, ⟨h1, h2⟩, q, h => by
    rcases List.mem_cons.1 h with rfl | h
    · exact h1
    · exact ChainG.mem h2 q h
theorem RT.trace {i : Nat} {e : Env} {σ : List AO} (h : RT P N ops tb Q i e σ) (hi : i ≤ ops.size) :
    ∃ (E : Nat → Env) (H : Nat → List AO) (val : Nat → AV), E i = e ∧ H i = σ ∧ (∀ j, i ≤ j → j < ops.size → ∃ o, ops[j]? = some o ∧ (∀ d, o.dst = some d → d < N) ∧ E (j + 1) = (E j).put o.dst (val j) ∧ GuardA ops N (E j) o true ∧
      AOp P (H j) (E j) o (val j) (H (j + 1)) ∧ ∀ k, k < j → befB tb k j = true) ∧ Q (E ops.size) (H ops.size) := by
  induction h with
  | nil hi' h =>
    rename_i i e σ
    exact ⟨fun _ => e, fun _ => σ, fun _ => .any, rfl, rfl, fun j h1 h2 => by omega, h⟩
  | op o v σ' ho hg hd h hall k ih =>
    rename_i i e σ
    have hlt : i < ops.size := (Array.getElem?_eq_some_iff.1 ho).1
    obtain ⟨E, H, val, hE, hH, hs, hQ⟩ := ih (by omega)
    refine ⟨fun j => if j = i then e else E j, fun j => if j = i then σ else H j, fun j => if j = i then v else val j, if_pos rfl, if_pos rfl, fun j h1 h2 => ?_, ?_⟩
    · by_cases hji : j = i
      · subst hji
        refine ⟨o, ho, hd, ?_, by simpa using hg, ?_, fun k hk => List.all_eq_true.1 hall k (List.mem_range.2 hk)⟩
        · simp [hE]
        · simp only [if_true, if_neg (show j + 1 ≠ j by omega), hH]; exact h
      · simp only [if_neg hji, if_neg (show j + 1 ≠ i by omega)]; exact hs j (by omega) h2
    · simp only [if_neg (show ops.size ≠ i by omega)]; exact hQ
theorem RG.trace {i : Nat} {e : Env} {σ : Bool → List AO} {past : List (Nat × (Bool → List AO))} {held : List (Nat × (List AO → Prop))} (h : RG P N ops tb B L Q i e σ past held) (htw : Twin B L σ) :
    ∃ f E H val kd, E i = e ∧ (∀ b, H b i = σ b) ∧ TrG P N ops tb B L Q i f E H val kd ∧
      (∀ j, i ≤ j → j < f → kd j = .pure → ∀ q ∈ past, ∃ o, ops[j]? = some o ∧ (befB tb q.1 j = true ∨ ∀ b, AOp P (q.2 b) (E j) o (val j) (q.2 b))) ∧
      (∀ j, i ≤ j → j < f → kd j = .eff → (∀ q ∈ held, befB tb q.1 j = true ∨ ∀ b, q.2 (H b (j + 1))) ∧ ∀ q ∈ past, befB tb q.1 j = true) := by
  induction h with
  | flt o ho hg hd h k =>
    rename_i i e σ past held
    have hlt : i < ops.size := (Array.getElem?_eq_some_iff.1 ho).1
    obtain ⟨E, H, val, hE, hH, hs, hQ⟩ := k.trace (by omega)
    refine ⟨i, fun j => if j = i then e else E j, fun b j => if j ≤ i + 1 then σ b else H j, fun j => if j = i then .ptr L 0 else val j, fun j => if j = i then .skip else .eff, if_pos rfl, fun b => if_pos (by omega), ⟨Nat.le_refl _, hlt, fun j h1 h2 => ?_, fun j h1 h2 => by omega, ⟨o, ho, hd, ?_, by simpa using hg, if_pos rfl, fun b => ?_, fun τ hτ => ?_⟩, fun j h1 h2 => ?_, ?_⟩, fun j h1 h2 => by omega, fun j h1 h2 => by omega⟩
    · simp only [if_pos (show j ≤ i + 1 by omega)]; exact htw
    · simp [hE]
    · simp
    · simp only [if_true]; exact h τ hτ
    · obtain ⟨o', a1, a2, a3, a4, a5, a6⟩ := hs j (by omega) h2
      refine ⟨o', a1, a2, ?_, ?_, ?_, ?_, a6⟩
      · simp only [if_neg (show j ≠ i by omega), if_neg (show j + 1 ≠ i by omega)]; exact a3
      · simp only [if_neg (show j ≠ i by omega)]; exact a4
      · simp only [if_neg (show j ≠ i by omega)]
      · simp only [if_neg (show j ≠ i by omega), if_neg (show ¬ j + 1 ≤ i + 1 by omega)]
        by_cases hj : j ≤ i + 1
        · have : j = i + 1 := by omega
          subst this
          simp only [Nat.le_refl, if_true]; rw [← hH]; exact a5
        · simp only [if_neg hj]; exact a5
    · simp only [if_neg (show ops.size ≠ i by omega)]
      by_cases hj : ops.size ≤ i + 1
      · simp only [if_pos hj]; have : ops.size = i + 1 := by omega
        rw [this] at hQ ⊢; rw [← hH]; exact hQ
      · simp only [if_neg hj]; exact hQ
  | pure o v ho hg hd h hp k ih =>
    rename_i i e σ past held
    obtain ⟨f, E, H, val, kd, hE, hH, ht, h1, h2⟩ := ih htw
    have hif := ht.le
    refine ⟨f, fun j => if j = i then e else E j, fun b j => if j = i then σ b else H b j, fun j => if j = i then v else val j, fun j => if j = i then .pure else kd j, if_pos rfl, fun b => if_pos rfl, ⟨by omega, ht.fl, fun j h3 h4 => ?_, fun j hj1 hj2 => ?_, ?_, fun j h3 h4 => ?_, ?_⟩, fun j hj1 hj2 hk q hq => ?_, fun j hj1 hj2 hk => ?_⟩
    · by_cases hji : j = i
      · simp only [if_pos hji]; exact htw
      · simp only [if_neg hji]; exact ht.twin j (by omega) h4
    · by_cases hji : j = i
      · subst hji
        refine ⟨o, ho, hd, by simp [hE], by simpa using hg, .inl ⟨by simp, fun b => ⟨by simpa using h b, by simp [hH]⟩, fun j' h4 h5 => by omega, fun j' h4 h5 hk => ?_⟩⟩
        simp only [if_neg (show j' ≠ j by omega), if_neg (show j' + 1 ≠ j by omega)] at hk ⊢
        simp only [if_true]
        exact (h2 j' (by omega) h5 hk).1 (j, fun σ' => AOp P σ' e o v σ') (by simp)
      · obtain ⟨o', ho', hd', hE', hg', hc⟩ := ht.pre j (by omega) hj2
        simp only [if_neg hji, if_neg (show j + 1 ≠ i by omega)]
        refine ⟨o', ho', hd', hE', hg', ?_⟩
        rcases hc with ⟨a0, a1, a4, a5⟩ | ⟨a0, a1, a3⟩
        · refine .inl ⟨a0, a1, fun j' h4 h5 hk' => ?_, fun j' h4 h5 hk' => ?_⟩
          · by_cases hj' : j' = i
            · subst hj'; simp at hk'
            · simp only [if_neg hj'] at hk' ⊢; exact a4 j' (by omega) h5 hk'
          · simp only [if_neg (show j' ≠ i by omega), if_neg (show j' + 1 ≠ i by omega)] at hk' ⊢; exact a5 j' h4 h5 hk'
        · refine .inr ⟨a0, a1, fun j' h4 h5 hk' => ?_⟩
          by_cases hj' : j' = i
          · subst hj'; simp at hk'
          · simp only [if_neg hj'] at hk'; exact a3 j' (by omega) h5 hk'
    · have := ht.flt; simpa only [if_neg (show f ≠ i by omega), if_neg (show f + 1 ≠ i by omega)] using this
    · have := ht.tail j h3 h4; simpa only [if_neg (show j ≠ i by omega), if_neg (show j + 1 ≠ i by omega)] using this
    · have := ht.fin; have h9 := ht.fl; simpa only [if_neg (show ops.size ≠ i by omega)] using this
    · by_cases hji : j = i
      · subst hji; exact ⟨o, ho, by simp only [if_true]; exact hp.mem q hq⟩
      · simp only [if_neg hji] at hk ⊢; exact h1 j (by omega) hj2 hk q hq
    · by_cases hji : j = i
      · subst hji; simp at hk
      · simp only [if_neg hji, if_neg (show j + 1 ≠ i by omega)] at hk ⊢
        obtain ⟨b1, b2⟩ := h2 j (by omega) hj2 hk
        exact ⟨fun q hq => b1 q (List.mem_cons_of_mem _ hq), b2⟩
  | eff o v σ' ho hg hd h htw' hh hc k ih =>
    rename_i i e σ past held
    obtain ⟨f, E, H, val, kd, hE, hH, ht, h1, h2⟩ := ih htw'
    have hif := ht.le
    refine ⟨f, fun j => if j = i then e else E j, fun b j => if j = i then σ b else H b j, fun j => if j = i then v else val j, fun j => if j = i then .eff else kd j, if_pos rfl, fun b => if_pos rfl, ⟨by omega, ht.fl, fun j h3 h4 => ?_, fun j hj1 hj2 => ?_, ?_, fun j h3 h4 => ?_, ?_⟩, fun j hj1 hj2 hk q hq => ?_, fun j hj1 hj2 hk => ?_⟩
    · by_cases hji : j = i
      · simp only [if_pos hji]; exact htw
      · simp only [if_neg hji]; exact ht.twin j (by omega) h4
    · by_cases hji : j = i
      · subst hji
        refine ⟨o, ho, hd, by simp [hE], by simpa using hg, .inr ⟨by simp, fun b => ?_, fun j' h4 h5 => by omega⟩⟩
        simp only [if_true, if_neg (show j + 1 ≠ j by omega), hH]; exact h b
      · obtain ⟨o', ho', hd', hE', hg', hc'⟩ := ht.pre j (by omega) hj2
        simp only [if_neg hji, if_neg (show j + 1 ≠ i by omega)]
        refine ⟨o', ho', hd', hE', hg', ?_⟩
        rcases hc' with ⟨a0, a1, a4, a5⟩ | ⟨a0, a1, a3⟩
        · refine .inl ⟨a0, a1, fun j' h4 h5 hk' => ?_, fun j' h4 h5 hk' => ?_⟩
          · by_cases hj' : j' = i
            · subst hj'
              obtain ⟨o2, ho2, hx⟩ := h1 j (by omega) hj2 a0 (j', σ) (by simp)
              rw [ho'] at ho2; cases ho2
              simp only [if_true]; exact hx
            · simp only [if_neg hj'] at hk' ⊢; exact a4 j' (by omega) h5 hk'
          · simp only [if_neg (show j' ≠ i by omega), if_neg (show j' + 1 ≠ i by omega)] at hk' ⊢; exact a5 j' h4 h5 hk'
        · refine .inr ⟨a0, a1, fun j' h4 h5 hk' => ?_⟩
          by_cases hj' : j' = i
          · subst hj'; exact (h2 j (by omega) hj2 a0).2 (j', σ) (by simp)
          · simp only [if_neg hj'] at hk'; exact a3 j' (by omega) h5 hk'
    · have := ht.flt; simpa only [if_neg (show f ≠ i by omega), if_neg (show f + 1 ≠ i by omega)] using this
    · have := ht.tail j h3 h4; simpa only [if_neg (show j ≠ i by omega), if_neg (show j + 1 ≠ i by omega)] using this
    · have := ht.fin; have h9 := ht.fl; simpa only [if_neg (show ops.size ≠ i by omega)] using this
    · by_cases hji : j = i
      · subst hji; simp at hk
      · simp only [if_neg hji] at hk ⊢; exact h1 j (by omega) hj2 hk q (List.mem_cons_of_mem _ hq)
    · by_cases hji : j = i
      · subst hji
        exact ⟨fun q hq => by simp only [if_neg (show j + 1 ≠ j by omega), hH]; exact hh.mem q hq, hc.mem⟩
      · simp only [if_neg hji, if_neg (show j + 1 ≠ i by omega)] at hk ⊢
        obtain ⟨b1, b2⟩ := h2 j (by omega) hj2 hk
        exact ⟨b1, fun q hq => b2 q (List.mem_cons_of_mem _ hq)⟩
end rp
end Lg
namespace Lg
open Go Go.RowKit
variable [GLay]
section sound
variable {P : Program} {N : Nat} {ops : Array Oper} {tb : Array Nat} {Q : Env → List AO → Prop} {B : AO} {L : Nat}
structure InvG (ops : Array Oper) (N f : Nat) (E : Nat → Env) (H : Bool → Nat → List AO) (val : Nat → AV) (kd : Nat → Kd) (s0 : CS) (listed : Array Bool) (a : Act) (w : World) : Prop where
  size : listed.size = ops.size
  dn : ∀ j o, ops[j]? = some o → listed.getD j false = true → ∀ ed ∈ o.after.toList, Region.binds .any ed = true → listed.getD ed.on false = true
  st : ∃ s q, s.w = w ∧ Good s ∧ Ext s0 s ∧ q ≤ ops.size ∧ (∀ j, j < q → kd j = .eff → listed.getD j false = true) ∧ (q < ops.size → kd q = .eff ∧ listed.getD q false = false) ∧ s.σ = H (listed.getD f false) q ∧
    a.tmps.size = N ∧ DefOK s (E 0).D a.defers ∧ ∀ t, V s (preA ops (E 0) val (fun j => listed.getD j false) ops.size t) (a.eval (.tmp t))
theorem InvG.way {f : Nat} {E : Nat → Env} {H : Bool → Nat → List AO} {val : Nat → AV} {kd : Nat → Kd} {s0 : CS} {listed : Array Bool} {a : Act} {w : World} (c : Chk ops tb) (h : InvG ops N f E H val kd s0 listed a w) :
    ∀ (j : Nat) (o : Oper), ops[j]? = some o → (∀ ed ∈ o.after.toList, Region.binds .any ed = true → listed.getD ed.on false = true) → ∀ i, i < ops.size → befB tb i j = true → listed.getD i false = true := by
  intro j
  induction j using Nat.strongRecOn with
  | _ j ih =>
    intro o ho hdeps i hi hb
    obtain ⟨ed, hed, hbd, h1⟩ := c.way i j o ho hi hb
    have hon := hdeps ed hed hbd
    rcases h1 with h1 | h1
    · rw [← h1]; exact hon
    · have hlt := (c.edge j o ho ed hed hbd).1
      have hjn : ed.on < ops.size := by have := (Array.getElem?_eq_some_iff.1 ho).1; omega
      have ho' := Array.getElem?_eq_getElem hjn
      exact ih ed.on hlt _ ho' (h.dn ed.on _ ho' hon) i hi h1
theorem TrG.step {i0 f : Nat} {E : Nat → Env} {H : Bool → Nat → List AO} {val : Nat → AV} {kd : Nat → Kd} (ht : TrG P N ops tb B L Q i0 f E H val kd) : ∀ i, i0 ≤ i → i < ops.size → ∃ o, ops[i]? = some o ∧ (∀ d, o.dst = some d → d < N) ∧ E (i + 1) = (E i).put o.dst (val i) ∧ GuardA ops N (E i) o true := fun i h0 hi => by
  rcases Nat.lt_trichotomy i f with h | h | h
  · obtain ⟨o, a1, a2, a3, a4, _⟩ := ht.pre i h0 h; exact ⟨o, a1, a2, a3, a4⟩
  · subst h; obtain ⟨o, a1, a2, a3, a4, _⟩ := ht.flt; exact ⟨o, a1, a2, a3, a4⟩
  · obtain ⟨o, a1, a2, a3, a4, _⟩ := ht.tail i h hi; exact ⟨o, a1, a2, a3, a4⟩
theorem TrG.hconst {i0 f : Nat} {E : Nat → Env} {H : Bool → Nat → List AO} {val : Nat → AV} {kd : Nat → Kd} (ht : TrG P N ops tb B L Q i0 f E H val kd) (z : Bool) : ∀ (b a : Nat), i0 ≤ a → a ≤ b → b ≤ ops.size → (∀ j, a ≤ j → j < b → kd j ≠ .eff) → H z a = H z b
  | 0, a, _, h, _, _ => by have : a = 0 := by omega
                           subst this; rfl
  | b + 1, a, h0, h, hb, hk => by
    by_cases e : a = b + 1
    · subst e; rfl
    · have ih := ht.hconst z b a h0 (by omega) (by omega) (fun j h1 h2 => hk j h1 (by omega))
      have hkb := hk b (by omega) (by omega)
      have : H z (b + 1) = H z b := by
        rcases Nat.lt_trichotomy b f with h1 | h1 | h1
        · obtain ⟨o, _, _, _, _, hc⟩ := ht.pre b (by omega) h1
          rcases hc with ⟨_, h2, _⟩ | ⟨h2, _⟩
          · exact (h2 z).2
          · exact absurd h2 hkb
        · subst h1
          obtain ⟨o, _, _, _, _, _, h2, _⟩ := ht.flt
          exact h2 z
        · obtain ⟨o, _, _, _, _, h2, _⟩ := ht.tail b h1 (by omega)
          exact absurd h2 hkb
      rw [ih, this]
end sound
end Lg
namespace Lg
open Go Go.RowKit
variable [GLay]
section
variable {P : Program} {N : Nat} {σ l : List AO} {e : Env} {o : Oper} {Q : QA}
end
section
variable {P : Program} {N : Nat} {ops : Array Oper} {tb : Array Nat} {B : AO} {L : Nat} {QR : Env → List AO → Prop} {i : Nat} {D : List (FuncId × List AV)} {el : List (Nat × AV)} {σ : Bool → List AO} {past : List (Nat × (Bool → List AO))} {held : List (Nat × (List AO → Prop))} {o : Oper} {v : AV} {d : Nat}
end
end Lg
namespace Lg
open Go Go.RowKit
variable [GLay]
section
variable {P : Program} {N : Nat} {e : Env} {σ : List AO} {Q : QA}
end
end Lg
namespace Lg
open Go Go.RowKit
variable [GLay]
section
variable {P : Program} {N : Nat} {σ l : List AO} {e : Env} {Q : QA}
theorem AWp_arrLe {c : Code} (q : Nat) {sz gg : Nat} {bs bs' : List AV} (hq : σ[q]? = some (.arr sz gg bs)) (hb0 : bs ≠ []) (hle : AVleL bs bs') (k : AWp P N c e (σ.set q (.arr sz gg bs')) Q) : AWp P N c e σ Q := fun s0 s a hs g x he => by
  subst hs
  have hrep := g.obj q _ hq
  have hne : (s.μ q).tot ≠ 0 := by
    rcases hrep with ⟨_, h⟩ | ⟨h, _⟩
    · exact absurd h hb0
    · exact h
  have hlive : s.live q := by unfold CS.live; rw [hq]; exact hne
  obtain ⟨_, vs, T, hb, hp⟩ := g.rep hq hlive
  have hnew : RepW s (s.μ q) vs T (.arr sz gg bs') := ⟨hp.1, hp.2.1, by have := hp.2.2.1; rw [← hle.len]; exact this, by have := hle.pw hp.2.2.2; rw [← hle.len]; exact this⟩
  obtain ⟨s2, f1, f2, g2, x2, _⟩ := g.setObj hq hlive (o' := .arr sz gg bs') (.arr _ _ _ _ _ (Nat.le_refl _) (fun _ => hle.len)) rfl (hnew.any rfl)
  have hw : s2.w = s.w := by rw [f2, setRow_self _ _ _ _ _ hb]
  have := k s0 s2 a f1 g2 (x.trans x2) (he.mono g x2)
  rwa [hw] at this
theorem AWp_arrLeO {c : Code} (k : Nat) {sz gg : Nat} {bs bs' : List AV} (hq : l[k]? = some (.arr sz gg bs)) (hb0 : bs ≠ []) (hle : AVleL bs bs') (h : AWp P N c e (σ ++ l.set k (.arr sz gg bs')) Q) : AWp P N c e (σ ++ l) Q :=
  AWp_arrLe (σ.length + k) (by rw [get_ownT rfl]; exact hq) hb0 hle (by rw [set_ownT rfl]; exact h)
theorem op_storeEl1 {o : Oper} {T : TypeId} {x y : Operand} {j g sz off i : Nat} {cs : List AV} {b : AV} (ho : o.op = .store T x y) (hz : ∀ w, (Go.sizeOf T).run P w = Result.ok 1 w) (hy : opO e y = some b) (hbc : b.cells = [b]) (h1 : ones [b] = true) (hx : opO e x = some (.pel (σ.length + j) g off)) (hoff : off = i)
    (hl : l[j]? = some (.arr sz g cs)) (hi : i < cs.length) : AOp P (σ ++ l) e o .any (σ ++ l.set j (.arr sz g (cs.set i b))) := by
  subst hoff
  have e1 := opO_eq hy
  have := op_store (P := P) (σ := σ ++ l) (e := e) (p := σ.length + j) (O := .arr sz g (cs.set off b)) ho hz (by rw [e1, hbc]; rfl) (by rw [e1, hbc]; exact h1) (by
    rw [e1, hbc, opO_eq hx]
    show stv (σ ++ l) [b] (.pel (σ.length + j) g off) = _
    simp only [stv, get_own, hl, if_true, spl_set _ _ _ hi, Option.map_some]) (by decide)
  rw [set_own] at this
  exact this
end
end Lg
namespace Lg
open Go Go.RowKit
variable [GLay]
theorem ResQ_KN {n0 : Nat} {el : List (Nat × AV)} {σ : List AO} {R : Out → List AO → Prop} (m : Nat) (hm : n0 ≤ m) (hc : closed m σ) (hR : R (.ret (.tup [])) (σ.take m)) : ResQ n0 [] R .normal ⟨[], el⟩ σ :=
  ⟨rfl, m, hm, hc, trivial, hR⟩
theorem ResQ_KR {n0 : Nat} {el : List (Nat × AV)} {σ : List AO} {R : Out → List AO → Prop} (m : Nat) (hm : n0 ≤ m) (hc : closed m σ) (hR : R (.ret (.tup [])) (σ.take m)) : ResQ n0 [] R .ret ⟨[], el⟩ σ :=
  ⟨rfl, m, hm, hc, trivial, hR⟩
end Lg
namespace Lg
open Go Go.RowKit
variable [GLay]
section
variable {P : Program} {N : Nat} {σ l : List AO} {e : Env} {o : Oper}
end
end Lg
namespace Lg
open Go
structure BQ (o : List JNode) (i : Nat) (c : Option Nat) (D : List Nat) (T : List Nat) (S : List Bool) : Prop where
  len : S.length = o.length
  tin : ∀ t ∈ T, t < o.length ∧ (t = i ∨ Rch o i t)
  cin : ∀ t, c = some t → t = i ∨ Rch o i t
  snd : ∀ u : Nat, S[u]? = some true → Rch o i u
  cls : ∀ u : Nat, (u = i ∨ S[u]? = some true) → u ∉ T → ¬ c = some u → ∀ n, o[u]? = some n → ∀ v ∈ outs n.keys, S[v]? = some true
  dne : ∀ v ∈ D, S[v]? = some true
def intc (l : List Nat) : List AV := l.map fun (t : Nat) => .int .i64 (t : Int)
def boolc (l : List Bool) : List AV := l.map .bool
section
variable [GLay]
@[simp] theorem intc_lt (n : Nat) (l : List Nat) : AV.ltL n (intc l) := by
  rw [AV.ltL_iff]; intro a ha; simp [intc] at ha; obtain ⟨x, _, rfl⟩ := ha; trivial
@[simp] theorem boolc_lt (n : Nat) (l : List Bool) : AV.ltL n (boolc l) := by
  rw [AV.ltL_iff]; intro a ha; simp [boolc] at ha; rcases ha with ⟨_, rfl⟩ | ⟨_, rfl⟩ <;> trivial
end
def boolr (l : List Bool) : List (List AV) := l.map fun b => [.bool b]
end Lg
namespace Lg
open Go
section
variable [GLay]
@[simp] theorem boolr_lt (n : Nat) (l : List Bool) : AV.ltLL n (boolr l) := by
  rw [AV.ltLL_iff]; intro e he; simp only [boolr, List.mem_map] at he; obtain ⟨x, _, rfl⟩ := he; exact ⟨trivial, trivial⟩
structure LOK (o : List JNode) : Prop where
  kr : ∀ n ∈ o, KR o.length n
  kz : ∀ n ∈ o, KZ n
  le : o.length ≤ 200
  sz : ∀ n ∈ o, n.path.size ≤ 100000000000
theorem LOK.out {o : List JNode} (h : LOK o) : OR o := by
  intro n hn d hd
  obtain ⟨k, hk, hd⟩ := List.mem_flatMap.1 hd
  unfold outK at hd
  split at hd
  · obtain ⟨x, hx, rfl⟩ := List.mem_map.1 hd
    have := h.kr n hn k hk x hx
    omega
  · cases hd
end
end Lg
namespace Lg
open Go Go.RowKit
variable [GLay]
section
variable {P : Program} {σ : List AO} {e : Env} {o : Oper}
end
end Lg
namespace Lg
open Go Go.RowKit
variable [GLay]
section
variable {P : Program} {σ σ' : List AO} {e : Env} {o : Oper}
end
end Lg
namespace Lg
open Go
section
variable [GLay]
end
end Lg
namespace Lg
open Go
theorem aD_digs {n : JNum} (h : digs n.digits n.digits.size) : aD n.digits.data.toList := fun b hb => by
  obtain ⟨i, hi⟩ := List.mem_iff_getElem?.1 hb
  have hlt := (List.getElem?_eq_some_iff.1 hi).1
  have hz : n.digits.data.toList.length = n.digits.size := Array.length_toList ..
  have := h i (by omega)
  unfold dig bat at this
  rw [List.getD_eq_getElem?_getD, hi] at this
  simp only [Option.getD_some] at this
  simp [isD]; omega
theorem numMay_J {n : JNum} (h : NumMay n) : JMay n := by
  rcases h with ⟨h1, h2, h3⟩ | ⟨h1, h2, h3, h4, h5, h6, h7⟩
  · left; exact (jnum_ext _ _).2 ⟨h2, h1, h3⟩
  · right
    have hz : n.digits.data.toList.length = n.digits.size := Array.length_toList ..
    have hp := ba_pos h1
    have hne : n.digits.data.toList ≠ [] := fun e => by rw [e] at hz; simp at hz; omega
    have hg : ∀ i, bat n.digits i = (n.digits.data.toList[i]?).getD 0 := fun i => by unfold bat; rw [List.getD_eq_getElem?_getD]
    refine ⟨n.digits.data.toList, (ba_eta _).symm, hne, aD_digs h2, ?_, ?_, by omega, h6, h7⟩
    · intro e
      rw [hg, ← List.head?_eq_getElem?, e] at h4
      exact h4 rfl
    · intro e
      rw [List.getLast?_eq_getElem?] at e
      rw [hg, ← hz, e] at h5
      exact h5 rfl
theorem mayM_get {v : JV} (h : jmay v) {i : Nat} {q : BJ} (hq : v.m[i]? = some q) : jmay q.2 := (((jmay_eq v).1 h).2.1 i q (List.getElem?_eq_some_iff.1 hq).1 hq).2
theorem mayL_get {v : JV} (h : jmay v) {i : Nat} {x : JV} (hx : v.l[i]? = some x) : jmay x := ((jmay_eq v).1 h).2.2 i x hx
theorem kids_may {n : ByteArray} {v : JV} (h : jmay v) {i : Nat} {q : BJ} (hq : (kidsM n v)[i]? = some q) : jmay q.2 := by
  unfold kidsM at hq
  split at hq
  · have hi := (List.getElem?_eq_some_iff.1 hq).1
    have : i = 0 := by simp at hi; exact hi
    subst this
    cases hq
    exact h
  · split at hq
    · exact mayM_get h hq
    · split at hq
      · exact mayL_get h (kZ_get (l := v.l) hq)
      · simp at hq
end Lg
namespace Lg
open Go
section
variable {f : Nat → List Bool → Bool × List Bool} {i : Nat} {S : List Bool}
end
end Lg
namespace Lg
open Go
structure RW (l : List JNode) (rows : List (List AV)) : Prop where
  len : rows.length = l.length
  el : ∀ r ∈ rows, r.length = 4
  get : ∀ (j : Nat) n, l[j]? = some n → ∃ K, AV.one K = true ∧ rows[j]? = some [.str n.path, .bool n.all, .bool n.pass, K]
section
variable [GLay]
end
end Lg
namespace Lg
open Go Go.RowKit
section
variable [GLay] {P : Program} {N : Nat} {σ l : List AO} {e : Env} {Q : QA}
theorem AWp_freezeInA {c : Code} (q i p gg sz off len : Nat) {sz2 g2 : Nat} {bs cs : List AV} (hqp : q ≠ p) (hq : σ[q]? = some (.arr sz2 g2 bs)) (hi : bs[i]? = some (.arr p gg sz off len)) (hσ : σ[p]? = some (.arr sz gg cs)) (es : List (List AV)) (hes : es.flatten = (cs.drop (off * sz)).take (len * sz))
    (hel : ∀ r ∈ es, r.length = sz) (hlen : es.length = len) (hsz : sz ≠ 0) (hfit : (off + len) * sz ≤ cs.length) (k : AWp P N c e ((σ.set p .dead).set q (.arr sz2 g2 (bs.set i (.sl false sz es)))) Q) : AWp P N c e σ Q := fun s0 s a hs g x he => by
  subst hs
  have hb0 : bs ≠ [] := fun e => by subst e; cases hi
  have hrep := g.obj q _ hq
  have hne : (s.μ q).tot ≠ 0 := by
    rcases hrep with ⟨_, h⟩ | ⟨h, _⟩
    · exact absurd h hb0
    · exact h
  have hliveq : s.live q := by unfold CS.live; rw [hq]; exact hne
  obtain ⟨_, vs, T, hb, hp⟩ := g.rep hq hliveq
  obtain ⟨v, hv1, hv2⟩ := hp.2.2.2.get hi
  have hbl := hp.2.2.1
  have hlt : i < bs.length := (List.getElem?_eq_some_iff.1 hi).1
  obtain ⟨s1, e1, e2, g1, x1, hv'⟩ := freezeArr_V g hσ hv2 es hes hel hlen hsz hfit
  have hq1 : s1.σ[q]? = some (.arr sz2 g2 bs) := by rw [e1, List.getElem?_set, if_neg (fun e => hqp e.symm)]; exact hq
  have hμ1 : s1.μ q = s.μ q := by
    obtain ⟨o', h1, _, h3⟩ := x1.objs q _ hq
    rw [hq1] at h1; cases h1
    exact h3 rfl
  have hlive1 : s1.live q := by unfold CS.live; rw [hq1]; show (s1.μ q).tot ≠ 0; rw [hμ1]; exact hne
  have hset : ((vs.drop (s.μ q).base).take bs.length).set i v = (vs.drop (s.μ q).base).take bs.length := by
    obtain ⟨h1, h2⟩ := List.getElem?_eq_some_iff.1 hv1
    rw [← h2]; exact List.set_getElem_self h1
  have hnew : RepW s1 (s1.μ q) vs T (.arr sz2 g2 (bs.set i (.sl false sz es))) := by
    rw [hμ1]
    refine ⟨hp.1, hp.2.1, by rw [List.length_set]; exact hbl, ?_⟩
    have := (hp.2.2.2.mono g x1).set i hv'
    rw [hset] at this
    rw [List.length_set]; exact this
  obtain ⟨s2, f1, f2, g2', x2, _⟩ := g1.setObj hq1 hlive1 (o' := .arr sz2 g2 (bs.set i (.sl false sz es))) (.arr _ _ _ _ _ (Nat.le_refl _) (fun _ => by simp)) rfl (hnew.any rfl)
  have hw : s2.w = s.w := by
    rw [f2, e2, hμ1, setRow_self _ _ _ _ _ hb]
  have := k s0 s2 a (by rw [f1, e1]) g2' ((x.trans x1).trans x2) ((he.mono g x1).mono g1 x2)
  rwa [hw] at this
end
end Lg
