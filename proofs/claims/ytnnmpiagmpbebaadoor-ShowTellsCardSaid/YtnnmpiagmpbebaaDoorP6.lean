/- A part of the proof of The canonical text of any value, as show.Show tells it, is the one that the document's own answer tells (ShowTells), for every text that a machine can hold: Lp6 Lp7 Lk4 Lk5 S4 W5 W11 W10 W12 W13 W14 W15 W3. -/
import Derived.Test.YtnnmpiagmpbebaaDoorP5
import Derived.Test.YtnnmpiagmpbebaaDoorP3
import Derived.Test.YtnnmpiagmpbebaaDoorP4
set_option linter.unusedVariables false
set_option linter.unusedSimpArgs false
set_option linter.unusedSectionVars false
namespace Lg
open Go
variable [GLay]
/-! ### What is read may be -/
theorem bytesLess_trans : ∀ (a b c : List UInt8), Op.bytesLess a b = true → Op.bytesLess b c = true → Op.bytesLess a c = true
  | [], [], _, h, _ => by simp [Op.bytesLess] at h
  | [], _ :: _, [], _, h => by simp [Op.bytesLess] at h
  | [], _ :: _, _ :: _, _, _ => by simp [Op.bytesLess]
  | _ :: _, [], _, h, _ => by simp [Op.bytesLess] at h
  | _ :: _, _ :: _, [], _, h => by simp [Op.bytesLess] at h
  | x :: a, y :: b, z :: c, h, k => by
    simp only [Op.bytesLess] at h k ⊢
    have ih := bytesLess_trans a b c
    have e1 : ∀ u v : UInt8, (u < v) = (u.toNat < v.toNat) := fun u v => by rw [UInt8.lt_iff_toNat_lt]
    have e2 : ∀ u v : UInt8, (u = v) = (u.toNat = v.toNat) := fun u v => by rw [UInt8.toNat_inj]
    simp only [e1, beq_iff_eq, e2, Bool.if_true_left, Bool.or_eq_true, decide_eq_true_eq, Bool.and_eq_true, Bool.if_false_right] at h k ⊢
    rcases h with h | h <;> rcases k with k | k
    · left; omega
    · left; omega
    · left; omega
    · right; exact ⟨by omega, ih h.2 k.2⟩
theorem blt_trans {a b c : ByteArray} (h : blt a b = true) (k : blt b c = true) : blt a c = true := bytesLess_trans _ _ _ h k
theorem vz_may : jmay vz := (jmay_eq vz).2 ⟨⟨by decide, by decide, by decide, zmay, zutf⟩, fun j q hj => absurd hj (by simp [vz, JV.m]), fun i x hx => by simp [vz, JV.l] at hx⟩
theorem may_b (b : Bool) : jmay (.mk 1 b {} e0 [] []) := (jmay_eq _).2 ⟨⟨by simp [JV.kind], by simp [JV.kind], by cases b <;> decide, zmay, zutf⟩, fun j q hj => absurd hj (by simp [JV.m]), fun i x hx => by simp [JV.l] at hx⟩
theorem may_s {t : ByteArray} (h : Utf t) : jmay (.mk 3 false {} t [] []) := (jmay_eq _).2 ⟨⟨by simp [JV.kind], by simp [JV.kind], by simp [jbare, JV.kind, JV.b, JV.n, JV.s, JV.l, JV.m, JNum.z], zmay, h⟩, fun j q hj => absurd hj (by simp [JV.m]), fun i x hx => by simp [JV.l] at hx⟩
theorem may_n {n : JNum} (h : NumMay n) : jmay (.mk 2 false n e0 [] []) := (jmay_eq _).2 ⟨⟨by simp [JV.kind], by simp [JV.kind], by simp [jbare, JV.kind, JV.b, JV.n, JV.s, JV.l, JV.m, e0], h, zutf⟩, fun j q hj => absurd hj (by simp [JV.m]), fun i x hx => by simp [JV.l] at hx⟩
theorem may_l {l : List JV} (h : lmay l) : jmay (.mk 4 false {} e0 l []) := (jmay_eq _).2 ⟨⟨by simp [JV.kind], by simp [JV.kind], by simp [jbare, JV.kind, JV.b, JV.n, JV.s, JV.l, JV.m, JNum.z, e0], zmay, zutf⟩, fun j q hj => absurd hj (by simp [JV.m]), fun i x hx => (lmay_iff l).1 h i x hx⟩
/-- Members that may be: their keys rise. -/
def MOK (m : List (ByteArray × JV)) : Prop := (∀ q ∈ m, Utf q.1 ∧ jmay q.2) ∧ m.Pairwise fun p q => blt p.1 q.1 = true
theorem MOK.mok {m : List (ByteArray × JV)} (h : MOK m) : mok m m.length := fun j q _ hq => by
  have hm := h.1 q (List.mem_of_getElem? hq)
  refine ⟨⟨hm.1, fun q' hj hq' => ?_⟩, hm.2⟩
  obtain ⟨h1, rfl⟩ := List.getElem?_eq_some_iff.1 hq
  obtain ⟨h2, rfl⟩ := List.getElem?_eq_some_iff.1 hq'
  exact List.pairwise_iff_getElem.1 h.2 (j - 1) j h2 h1 (by omega)
theorem may_m {m : List (ByteArray × JV)} (h : MOK m) : jmay (mkO m) := (jmay_eq _).2 ⟨⟨by simp [mkO, JV.kind], by simp [mkO, JV.kind], by simp [mkO, jbare, JV.kind, JV.b, JV.n, JV.s, JV.l, JV.m, JNum.z, e0], zmay, zutf⟩, h.mok, fun i x hx => by simp [mkO, JV.l] at hx⟩
theorem rins_nil (key : ByteArray) (x : JV) : rins [] key x = [(key, x)] := rfl
theorem rins_cons (q : ByteArray × JV) (m : List (ByteArray × JV)) (key : ByteArray) (x : JV) : rins (q :: m) key x = if blt q.1 key = true then q :: rins m key x else (key, x) :: q :: m := by
  unfold rins rinsK
  by_cases h : blt q.1 key = true
  · simp [List.takeWhile_cons, h]
  · simp [List.takeWhile_cons, h]
theorem rins_mem {m : List (ByteArray × JV)} {key : ByteArray} {x : JV} : ∀ q ∈ rins m key x, q ∈ m ∨ q = (key, x) := by
  induction m with
  | nil => intro q hq; rw [rins_nil] at hq; exact .inr (List.mem_singleton.1 hq)
  | cons p m ih =>
    intro q hq
    rw [rins_cons] at hq
    split at hq
    · rcases List.mem_cons.1 hq with rfl | h
      · exact .inl (List.mem_cons_self ..)
      · exact (ih q h).imp (List.mem_cons_of_mem _) id
    · rcases List.mem_cons.1 hq with rfl | h
      · exact .inr rfl
      · exact .inl h
theorem rins_pw {m : List (ByteArray × JV)} {key : ByteArray} {x : JV} (h : m.Pairwise fun p q => blt p.1 q.1 = true) (hk : ∀ q ∈ m, ¬ q.1 = key) : (rins m key x).Pairwise fun p q => blt p.1 q.1 = true := by
  induction m with
  | nil => rw [rins_nil]; exact List.pairwise_singleton _ _
  | cons p m ih =>
    rw [rins_cons]
    obtain ⟨h1, h2⟩ := List.pairwise_cons.1 h
    split
    · rename_i hl
      refine List.pairwise_cons.2 ⟨fun q hq => ?_, ih h2 fun q hq => hk q (List.mem_cons_of_mem _ hq)⟩
      rcases rins_mem q hq with h3 | rfl
      · exact h1 q h3
      · exact hl
    · rename_i hl
      have hlt : blt key p.1 = true := bytesLess_total _ _ (by simpa [blt] using hl) fun e => hk p (List.mem_cons_self ..) (by
        have := ba_beq p.1 key
        rw [e] at this; simpa using this)
      refine List.pairwise_cons.2 ⟨fun q hq => ?_, h⟩
      rcases List.mem_cons.1 hq with rfl | h3
      · exact hlt
      · exact blt_trans hlt (h1 q h3)
theorem MOK.ins {m : List (ByteArray × JV)} {key : ByteArray} {x : JV} (h : MOK m) (h1 : Utf key) (h2 : jmay x) (hk : ∀ q ∈ m, ¬ q.1 = key) : MOK (rins m key x) :=
  ⟨fun q hq => by
    rcases rins_mem q hq with h3 | rfl
    · exact h.1 q h3
    · exact ⟨h1, h2⟩, rins_pw h.2 hk⟩
theorem msize_ins (m : List (ByteArray × JV)) (key : ByteArray) (x : JV) : msize (rins m key x) = msize m + jsize x := by
  induction m with
  | nil => rw [rins_nil]; simp [msize]
  | cons p m ih =>
    obtain ⟨k, v⟩ := p
    rw [rins_cons]
    split
    · simp only [msize, ih]; omega
    · simp only [msize]; omega
theorem mb_ins {m : List (ByteArray × JV)} {key : ByteArray} {x : JV} (h : mb m) (h1 : key.size ≤ 1000000) (h2 : jb x) : mb (rins m key x) := by
  induction m with
  | nil => rw [rins_nil]; exact ⟨h1, h2, trivial⟩
  | cons p m ih =>
    obtain ⟨k, v⟩ := p
    rw [rins_cons]
    split
    · exact ⟨h.1, h.2.1, ih h.2.2⟩
    · exact ⟨h1, h2, h⟩
theorem lsize_snoc (l : List JV) (x : JV) : lsize (l ++ [x]) = lsize l + jsize x := by
  induction l with
  | nil => simp [lsize]
  | cons a l ih => simp only [List.cons_append, lsize, ih]; omega
theorem lcells_snoc (l : List JV) (x : JV) : (lcells (l ++ [x])).flatten = (lcells l).flatten ++ vcells x := by
  rw [lcells_eq, lcells_eq]; simp
theorem lflat_len (l : List JV) : (lcells l).flatten.length = l.length * 8 := by
  induction l with
  | nil => simp [lcells]
  | cons a l ih => simp only [lcells, List.flatten_cons, List.length_append, ih, vlen, List.length_cons]; omega
theorem ltL_append (n : Nat) (a b : List AV) : AV.ltL n (a ++ b) ↔ AV.ltL n a ∧ AV.ltL n b := by
  induction a with
  | nil => simp [AV.ltL]
  | cons x a ih => simp only [List.cons_append, AV.ltL, ih, and_assoc]
theorem lflat_lt (n : Nat) (l : List JV) : AV.ltL n (lcells l).flatten := by
  induction l with
  | nil => simp [lcells, AV.ltL]
  | cons a l ih => simp only [lcells, List.flatten_cons, ltL_append]; exact ⟨vcells_lt n a, ih⟩
theorem lrow_len (l : List JV) : ∀ r ∈ lcells l, r.length = 8 := fun r hr => by
  rw [lcells_eq] at hr
  obtain ⟨v, _, rfl⟩ := List.mem_map.1 hr
  exact vlen v
theorem lb_snoc {l : List JV} {x : JV} (h : lb l) (hx : jb x) : lb (l ++ [x]) := by
  induction l with
  | nil => exact ⟨hx, trivial⟩
  | cons a l ih => exact ⟨h.1, ih h.2⟩
theorem lmay_snoc {l : List JV} {x : JV} (h : lmay l) (hx : jmay x) : lmay (l ++ [x]) := by
  induction l with
  | nil => exact ⟨hx, trivial⟩
  | cons a l ih => exact ⟨h.1, ih h.2⟩
theorem jfind_none {m : List (ByteArray × JV)} {key : ByteArray} (h : jfind (mkO m) key = none) : ∀ q ∈ m, ¬ q.1 = key := fun q hq e => by
  have h' : (m.find? fun q => decide (q.1 = key)) = none := by
    unfold jfind at h
    rw [if_pos (show (mkO m).kind = 5 from rfl)] at h
    simpa [mkO, JV.m] using h
  have := List.find?_eq_none.1 h' q hq
  simp [e] at this
/-- What a value's reading comes to. -/
structure VR (s : ByteArray) (r : RS) (x : JV × RS) : Prop where
  fwd : RTo s r x.2
  deep : x.2.deep = r.deep
  jb : jb x.1
  size : jsize x.1 ≤ (x.2.a : Int) - r.a + 1
  may : x.2.bad = 0 → jmay x.1
section
variable {rv : RS → JV × RS} {s : ByteArray} (hs : s.size ≤ 100000) (hrv : ∀ r, ROK s r → VR s r (rv r))
include hrv
theorem rarrF_ok : ∀ (k : Nat) (l : List JV) (r : RS), ROK s r → lb l → (r.bad = 0 → lmay l) →
    RTo s r (rarrF rv s k l r).2 ∧ (rarrF rv s k l r).2.deep = r.deep ∧ lb (rarrF rv s k l r).1 ∧ lsize (rarrF rv s k l r).1 ≤ lsize l + ((rarrF rv s k l r).2.a : Int) - r.a + 1 ∧ ((rarrF rv s k l r).2.bad = 0 → lmay (rarrF rv s k l r).1) := by
  intro k
  induction k with
  | zero => intro l r h h1 h2; exact ⟨.refl h, rfl, h1, by dsimp only [rarrF]; omega, h2⟩
  | succ k ih =>
    intro l r h h1 h2
    rw [rarrF]
    have hv := hrv r h
    split
    · split
      · rename_i hp
        have hi := rinc_to hv.fwd.ok (by omega)
        obtain ⟨q1, q2, q3, q4, q5⟩ := ih (l ++ [(rv r).1]) (rinc (rv r).2) hi.ok (lb_snoc h1 hv.jb) (fun e => lmay_snoc (h2 (hv.fwd.b e)) (hv.may e))
        refine ⟨hv.fwd.trans (hi.trans q1), q2.trans hv.deep, q3, ?_, q5⟩
        rw [lsize_snoc] at q4
        have := hv.size
        have h5 : (rinc (rv r).2).a = (rv r).2.a + 1 := rfl
        omega
      · refine ⟨hv.fwd, hv.deep, lb_snoc h1 hv.jb, ?_, fun e => lmay_snoc (h2 (hv.fwd.b e)) (hv.may e)⟩
        rw [lsize_snoc]; have := hv.size; dsimp only; omega
    · exact ⟨.refl h, rfl, h1, by dsimp only; omega, h2⟩
include hs
theorem rarr_ok {r : RS} (h : ROK s r) (hb : r.bad = 0) (ha : r.a < s.size) : VR s r (rarr rv s r) := by
  obtain ⟨o1, o2, o3⟩ := ropen_to h hb ha
  obtain ⟨q1, q2, q3, q4, q5⟩ := rarrF_ok hrv (s.size + 2) [] (ropen s r) o1.ok trivial (fun _ => trivial)
  obtain ⟨w1, w2⟩ := rwant_to (lit := rb1) q1.ok
  unfold rarr
  have hll := llen_le (rarrF rv s (s.size + 2) [] (ropen s r)).1
  have e0l : lsize [] = 0 := rfl
  have ha1 := w1.ok.a; have ha2 := w1.a
  have hd := h.d0; have hd1 := h.d1
  refine ⟨⟨?_, ⟨ha1, w1.ok.b, ?_, ?_⟩, fun e => o1.b (q1.b (w1.b e))⟩, ?_, ?_, ?_, fun e => may_l (q5 (w1.b e))⟩
  · have := q1.a; dsimp only [rdec]; omega
  · dsimp only [rdec]; omega
  · have := w1.ok.d1; dsimp only [rdec]; omega
  · dsimp only [rdec]; omega
  · rw [jb_eq]; simp only [JV.n, JV.s, JV.l, JV.m, mb, and_true]
    exact ⟨Nat.zero_le _, Nat.zero_le _, by omega, Nat.zero_le _, q3⟩
  · simp only [jsize, msize, rdec]; omega
omit hs in
theorem rkey_ok {m : List (ByteArray × JV)} {r : RS} (h : ROK s r) : RTo s r (rkey s m r).2 ∧ (rkey s m r).2.deep = r.deep ∧ (rkey s m r).1.size + r.a ≤ (rkey s m r).2.a ∧ Utf (rkey s m r).1 ∧ ((rkey s m r).2.bad = 0 → ∀ q ∈ m, ¬ q.1 = (rkey s m r).1) := by
  have b1 := rblank_to h
  obtain ⟨t1, t2, t3, t4⟩ := rtext_to b1.ok
  have hb1 := b1.a
  unfold rkey rk2
  by_cases hf : (jfind (mkO m) (rtext s (rblank s r)).1).isSome = true
  · simp only [if_pos hf]
    have f1 := rfail_to (a := (rblank s r).a) (b := 4) t1.ok (by decide)
    have b2 := rblank_to f1.ok
    obtain ⟨w1, w2⟩ := rwant_to (lit := rb3) b2.ok
    refine ⟨b1.trans (t1.trans (f1.trans (b2.trans w1))), w2.trans t2, ?_, t3, fun e => absurd (b2.b (w1.b e)) (rfail_bad (by decide))⟩
    have := w1.a; have := b2.a; have := f1.a; omega
  · simp only [if_neg hf]
    have b2 := rblank_to t1.ok
    obtain ⟨w1, w2⟩ := rwant_to (lit := rb3) b2.ok
    refine ⟨b1.trans (t1.trans (b2.trans w1)), w2.trans t2, ?_, t3, fun _ => jfind_none (by simpa using hf)⟩
    have := w1.a; have := b2.a; omega
omit hs hrv in
theorem rk2_ok {m : List (ByteArray × JV)} {r : RS} (h : ROK s r) : RTo s r (rk2 s m r) ∧ (rk2 s m r).deep = r.deep := by
  have b1 := rblank_to h
  obtain ⟨t1, t2, t3, t4⟩ := rtext_to b1.ok
  unfold rk2
  split
  · exact ⟨b1.trans (t1.trans (rfail_to t1.ok (by decide))), t2⟩
  · exact ⟨b1.trans t1, t2⟩
include hs
theorem robjF_ok : ∀ (k : Nat) (m : List (ByteArray × JV)) (r : RS), ROK s r → mb m → (r.bad = 0 → MOK m) →
    RTo s r (robjF rv s k m r).2 ∧ (robjF rv s k m r).2.deep = r.deep ∧ mb (robjF rv s k m r).1 ∧ msize (robjF rv s k m r).1 ≤ msize m + ((robjF rv s k m r).2.a : Int) - r.a + 1 ∧ ((robjF rv s k m r).2.bad = 0 → MOK (robjF rv s k m r).1) := by
  intro k
  induction k with
  | zero => intro m r h h1 h2; exact ⟨.refl h, rfl, h1, by dsimp only [robjF]; omega, h2⟩
  | succ k ih =>
    intro m r h h1 h2
    rw [robjF]
    obtain ⟨k1, k2, k3, k4, k5⟩ := rkey_ok hrv (m := m) h
    have hv := hrv _ k1.ok
    have hk1 := k1.a; have hk6 := k1.ok.a
    have hins : (rv (rkey s m r).2).2.bad = 0 → MOK (rins m (rkey s m r).1 (rv (rkey s m r).2).1) := fun e => (h2 (k1.b (hv.fwd.b e))).ins k4 (hv.may e) (k5 (hv.fwd.b e))
    split
    · split
      · rename_i hp
        have hi := rinc_to hv.fwd.ok (by omega)
        obtain ⟨q1, q2, q3, q4, q5⟩ := ih (rins m (rkey s m r).1 (rv (rkey s m r).2).1) (rinc (rv (rkey s m r).2).2) hi.ok (mb_ins h1 (by omega) hv.jb) hins
        refine ⟨k1.trans (hv.fwd.trans (hi.trans q1)), q2.trans (hv.deep.trans k2), q3, ?_, q5⟩
        rw [msize_ins] at q4
        have := hv.size
        have h5 : (rinc (rv (rkey s m r).2).2).a = (rv (rkey s m r).2).2.a + 1 := rfl
        omega
      · refine ⟨k1.trans hv.fwd, hv.deep.trans k2, mb_ins h1 (by omega) hv.jb, ?_, hins⟩
        rw [msize_ins]; have := hv.size; dsimp only; omega
    · exact ⟨.refl h, rfl, h1, by dsimp only; omega, h2⟩
theorem robj_ok {r : RS} (h : ROK s r) (hb : r.bad = 0) (ha : r.a < s.size) : VR s r (robj rv s r) := by
  obtain ⟨o1, o2, o3⟩ := ropen_to h hb ha
  obtain ⟨q1, q2, q3, q4, q5⟩ := robjF_ok hs hrv (s.size + 2) [] (ropen s r) o1.ok trivial (fun _ => ⟨fun q hq => by simp at hq, List.Pairwise.nil⟩)
  obtain ⟨w1, w2⟩ := rwant_to (lit := rb2) q1.ok
  unfold robj
  have hll := mlen_le (robjF rv s (s.size + 2) [] (ropen s r)).1
  have e0l : msize [] = 0 := rfl
  have ha1 := w1.ok.a; have ha2 := w1.a
  have hd := h.d0; have hd1 := h.d1
  refine ⟨⟨?_, ⟨ha1, w1.ok.b, ?_, ?_⟩, fun e => o1.b (q1.b (w1.b e))⟩, ?_, ?_, ?_, fun e => may_m (q5 (w1.b e))⟩
  · have := q1.a; dsimp only [rdec]; omega
  · dsimp only [rdec]; omega
  · have := w1.ok.d1; dsimp only [rdec]; omega
  · dsimp only [rdec]; omega
  · rw [jb_eq]; simp only [mkO, JV.n, JV.s, JV.l, JV.m, lb, true_and]
    exact ⟨Nat.zero_le _, Nat.zero_le _, Nat.zero_le _, by omega, q3⟩
  · simp only [mkO, jsize, lsize, rdec]; omega
theorem rnumv_ok {r : RS} (h : ROK s r) (hb : r.bad = 0) (ha : r.a < s.size) : VR s r (rnumv s r) := by
  have he := rEnd_le (s := s) (a := r.a) (by omega)
  have hm := rNum_may (s.extract r.a (rEnd s r.a).1)
  have h3 := h.d1; have h0 := h.d0
  unfold rnumv
  refine ⟨⟨he.1, ⟨by dsimp only; omega, fun _ => he.2, h0, by dsimp only; omega⟩, fun _ => hb⟩, rfl, ?_, ?_, fun _ => may_n hm⟩
  · exact jb_nil _ _ _ _ (by have := hm.size; omega) (Nat.zero_le _)
  · simp only [jsize_nil]; omega
theorem rone_ok {r : RS} (h : ROK s r) : VR s r (rone rv s r) := by
  have hz : ∀ {r' : RS} {v : JV}, RTo s r r' → r'.deep = r.deep → jsize v = 1 → jb v → jmay v → VR s r (v, r') := fun h1 h2 h3 h4 h5 => ⟨h1, h2, h4, by have := h1.a; dsimp only; omega, fun _ => h5⟩
  have h0 : jb vz := jb_nil _ _ _ _ (Nat.zero_le _) (Nat.zero_le _)
  unfold rone
  split
  · rename_i hp; have := pk_yes (s := s) (a := r.a) (bad := r.bad) (by omega); exact robj_ok hs hrv h this.1 this.2.1
  split
  · rename_i hp; have := pk_yes (s := s) (a := r.a) (bad := r.bad) (by omega); exact rarr_ok hs hrv h this.1 this.2.1
  split
  · obtain ⟨t1, t2, t3, t4⟩ := rtext_to h
    exact hz t1 t2 (jsize_nil _ _ _ _) (jb_nil _ _ _ _ (Nat.zero_le _) (by have := t1.ok.a; omega)) (may_s t3)
  split
  · exact hz (rwant_to h).1 (rwant_to h).2 (jsize_nil _ _ _ _) h0 vz_may
  split
  · exact hz (rwant_to h).1 (rwant_to h).2 (jsize_nil _ _ _ _) (jb_nil _ _ _ _ (Nat.zero_le _) (Nat.zero_le _)) (may_b true)
  split
  · exact hz (rwant_to h).1 (rwant_to h).2 (jsize_nil _ _ _ _) (jb_nil _ _ _ _ (Nat.zero_le _) (Nat.zero_le _)) (may_b false)
  split
  · rename_i hp; have := pk_yes (s := s) (a := r.a) (bad := r.bad) (by omega); exact rnumv_ok hs hrv h this.1 this.2.1
  · exact hz (rfail_to h (by decide)) rfl (jsize_nil _ _ _ _) h0 vz_may
end
theorem rval_ok {s : ByteArray} (hs : s.size ≤ 100000) : ∀ (n : Nat) (r : RS), ROK s r → VR s r (rval n s r) := by
  intro n
  induction n with
  | zero => intro r h; exact ⟨.refl h, rfl, jb_nil _ _ _ _ (Nat.zero_le _) (Nat.zero_le _), by simp only [rval, vz, jsize_nil]; omega, fun _ => vz_may⟩
  | succ n ih =>
    intro r h
    have b1 := rblank_to h
    have hv := rone_ok hs ih b1.ok
    have b2 := rblank_to hv.fwd.ok
    rw [rval]
    exact ⟨b1.trans (hv.fwd.trans b2), hv.deep, hv.jb, by have := hv.size; have := b1.a; have := b2.a; dsimp only; omega, fun e => hv.may (b2.b e)⟩
/-- What a text's reading comes to. -/
theorem rParse_ok (s : ByteArray) (h : (rParse s).2.1 = 0) : jmay (rParse s).1 ∧ jb (rParse s).1 ∧ jsize (rParse s).1 ≤ s.size + 2 ∧ s.size ≤ 20000 := by
  unfold rParse at h ⊢
  split at h
  · cases h
  · rename_i hs
    split at h
    · rename_i hb
      rw [if_neg hs, if_pos hb]
      have h0 : ROK s ⟨0, 0, 0, 0⟩ := ⟨Nat.zero_le _, fun _ => Nat.zero_le _, Int.le_refl _, Int.le_refl _⟩
      have hv : VR s ⟨0, 0, 0, 0⟩ (rpar s) := rval_ok (by omega) (s.size + 2) ⟨0, 0, 0, 0⟩ h0
      have hb2 : (rpar s).2.bad = 0 := by
        unfold rparE at hb
        split at hb
        · exact absurd hb (rfail_bad (by decide))
        · exact hb
      exact ⟨hv.may hb2, hv.jb, by have := hv.size; have := hv.fwd.ok.a; dsimp only at *; omega, by omega⟩
    · rename_i hb; exact absurd h hb
/-- What a law takes for a text's value. -/
noncomputable def rValue (s : ByteArray) : JV × Int := if 2000 < s.size then (vz, 0) else if (rParse s).2.1 = 0 then ((rParse s).1, 1) else (vz, 0)
theorem rValue_ok (s : ByteArray) : (rValue s).2 = 0 ∧ (rValue s).1 = vz ∨ (rValue s).2 = 1 ∧ jmay (rValue s).1 ∧ jb (rValue s).1 ∧ jsize (rValue s).1 ≤ 2002 := by
  unfold rValue
  split
  · exact .inl ⟨rfl, rfl⟩
  split
  · rename_i h1 h2
    have := rParse_ok s h2
    exact .inr ⟨rfl, this.1, this.2.1, by have := this.2.2.1; dsimp only; omega⟩
  · exact .inl ⟨rfl, rfl⟩
end Lg
namespace Lg
open Go
variable [GLay]
/-! ### Members as cells -/
def mrow (q : ByteArray × JV) : List AV := .str q.1 :: vcells q.2
theorem mcells_map (m : List (ByteArray × JV)) : mcells m = m.map mrow := mcells_eq m
theorem mrow_len (q : ByteArray × JV) : (mrow q).length = 9 := by simp [mrow, vlen]
theorem mrows_len (m : List (ByteArray × JV)) : ∀ r ∈ mcells m, r.length = 9 := fun r hr => by
  rw [mcells_map] at hr
  obtain ⟨v, _, rfl⟩ := List.mem_map.1 hr
  exact mrow_len v
theorem mflat_len (m : List (ByteArray × JV)) : (mcells m).flatten.length = m.length * 9 := by
  induction m with
  | nil => simp [mcells]
  | cons a m ih => obtain ⟨k, v⟩ := a; simp only [mcells, List.flatten_cons, List.length_append, ih, List.length_cons, vlen]; omega
theorem vones (v : JV) : ones (vcells v) = true := by rw [vcells_eq]; rfl
theorem mones (m : List (ByteArray × JV)) : ones (mcells m).flatten = true := by
  induction m with
  | nil => simp [mcells, ones]
  | cons a m ih =>
    obtain ⟨k, v⟩ := a
    simp only [mcells, List.flatten_cons, ones_append, ih, Bool.and_true, ones, vones]; rfl
theorem mflat_lt (n : Nat) (m : List (ByteArray × JV)) : AV.ltL n (mcells m).flatten := by
  induction m with
  | nil => simp [mcells, AV.ltL]
  | cons a m ih => obtain ⟨k, v⟩ := a; simp only [mcells, List.flatten_cons, ltL_append, AV.ltL, AV.lt, true_and]; exact ⟨vcells_lt n v, ih⟩
theorem mslice_lo (m : List (ByteArray × JV)) (j : Nat) (b : Int) (hb : b = m.length) : ((mcells m).drop j).take (b.toNat - j) = mcells (m.drop j) := by
  subst hb
  rw [Int.toNat_natCast, List.take_of_length_le (by simp [mcells_length]), mcells_map, mcells_map, List.map_drop]
theorem mslice_lo' (m : List (ByteArray × JV)) (j : Nat) : ((mcells m).drop j).take ((mcells m).length - j) = mcells (m.drop j) := by
  rw [List.take_of_length_le (by simp), mcells_map, mcells_map, List.map_drop]
theorem mslice_hi (m : List (ByteArray × JV)) (j : Nat) : ((mcells m).drop (0 : Int).toNat).take (j - (0 : Int).toNat) = mcells (m.take j) := by
  show ((mcells m).drop 0).take (j - 0) = _
  rw [List.drop_zero, Nat.sub_zero, mcells_map, mcells_map, List.map_take]
theorem mflat_ins (m : List (ByteArray × JV)) (key : ByteArray) (v : JV) : (mcells (rins m key v)).flatten = (mcells (m.take (rinsK m key))).flatten ++ (mrow (key, v) ++ (mcells (m.drop (rinsK m key))).flatten) := by
  unfold rins
  rw [mcells_map, mcells_map, mcells_map]; simp
theorem rinsK_le (m : List (ByteArray × JV)) (key : ByteArray) : rinsK m key ≤ m.length := by
  unfold rinsK
  exact (List.takeWhile_sublist _).length_le
theorem rins_len (m : List (ByteArray × JV)) (key : ByteArray) (v : JV) : (rins m key v).length = m.length + 1 := by
  have := rinsK_le m key
  unfold rins; simp; omega
theorem rinsK_yes {m : List (ByteArray × JV)} {key : ByteArray} {j : Nat} {q : ByteArray × JV} (hq : m[j]? = some q) (h : blt q.1 key = true) : rinsK (m.drop j) key = 1 + rinsK (m.drop (j + 1)) key := by
  obtain ⟨hj, rfl⟩ := List.getElem?_eq_some_iff.1 hq
  rw [List.drop_eq_getElem_cons hj]
  unfold rinsK
  simp only [List.takeWhile_cons, h, if_true, List.length_cons]; omega
theorem rinsK_no {m : List (ByteArray × JV)} {key : ByteArray} {j : Nat} {q : ByteArray × JV} (hq : m[j]? = some q) (h : blt q.1 key = false) : rinsK (m.drop j) key = 0 := by
  obtain ⟨hj, rfl⟩ := List.getElem?_eq_some_iff.1 hq
  rw [List.drop_eq_getElem_cons hj]
  unfold rinsK
  simp only [List.takeWhile_cons, h, Bool.false_eq_true, if_false, List.length_nil]
theorem rinsK_end {m : List (ByteArray × JV)} {key : ByteArray} {j : Nat} (h : m.length ≤ j) : rinsK (m.drop j) key = 0 := by
  rw [List.drop_eq_nil_of_le h]; rfl
end Lg
namespace Lg
open Go
/-! ### The reference's reader, to be run by the kernel -/
def rnumvC (s : ByteArray) (r : RS) : JV × RS :=
  (.mk 2 false (pNum (s.extract r.a (rEnd s r.a).1).data.toList).1 e0 [] [],
   ⟨(rEnd s r.a).1, r.deep, (if (pNum (s.extract r.a (rEnd s r.a).1).data.toList).2 = 0 then (if (rEnd s r.a).2 = true then r else rfail r (rEnd s r.a).1 1) else rfail (if (rEnd s r.a).2 = true then r else rfail r (rEnd s r.a).1 1) r.a 5).bad,
    (if (pNum (s.extract r.a (rEnd s r.a).1).data.toList).2 = 0 then (if (rEnd s r.a).2 = true then r else rfail r (rEnd s r.a).1 1) else rfail (if (rEnd s r.a).2 = true then r else rfail r (rEnd s r.a).1 1) r.a 5).spot⟩)
theorem rnumv_C {s : ByteArray} (hs : s.size ≤ 1000) (r : RS) : rnumv s r = rnumvC s r := by
  unfold rnumv rnumvC
  rw [rNum_pNum _ (by rw [ByteArray.size_extract]; omega)]
/-- What a byte begins. -/
def roneC (rv : RS → JV × RS) (s : ByteArray) (r : RS) : JV × RS :=
  if pkv s r.a r.bad = 123 then robj rv s r else
  if pkv s r.a r.bad = 91 then rarr rv s r else
  if pkv s r.a r.bad = 34 then (.mk 3 false {} (rtext s r).1 [] [], (rtext s r).2) else
  if pkv s r.a r.bad = 110 then (vz, rwant s lNull r) else
  if pkv s r.a r.bad = 116 then (.mk 1 true {} e0 [] [], rwant s lTrue r) else
  if pkv s r.a r.bad = 102 then (.mk 1 false {} e0 [] [], rwant s lFalse r) else
  if pkv s r.a r.bad = 45 ∨ (48 ≤ pkv s r.a r.bad ∧ pkv s r.a r.bad ≤ 57) then rnumvC s r else (vz, rfail r r.a 1)
def rvalC : Nat → ByteArray → RS → JV × RS
  | 0, s, r => (vz, r)
  | n + 1, s, r => ((roneC (rvalC n s) s (rblank s r)).1, rblank s (roneC (rvalC n s) s (rblank s r)).2)
theorem rval_C {s : ByteArray} (hs : s.size ≤ 1000) : ∀ n, rval n s = rvalC n s
  | 0 => rfl
  | n + 1 => by
    funext r
    have ih := rval_C hs n
    unfold rval rvalC
    rw [ih]
    have e : ∀ r, rone (rvalC n s) s r = roneC (rvalC n s) s r := fun r => by unfold rone roneC; rw [rnumv_C hs]
    rw [e]
def rparC (s : ByteArray) : JV × RS := rvalC (s.size + 2) s ⟨0, 0, 0, 0⟩
def rparEC (s : ByteArray) : RS := if (rparC s).2.bad = 0 ∧ (rparC s).2.a < s.size then rfail (rparC s).2 (rparC s).2.a 1 else (rparC s).2
def rParseC (s : ByteArray) : JV × Int × Int :=
  if 20000 < s.size then (vz, 5, 20000) else if (rparEC s).bad = 0 then ((rparC s).1, 0, 0) else (vz, (rparEC s).bad, (rparEC s).spot)
theorem rParse_C {s : ByteArray} (hs : s.size ≤ 1000) : rParse s = rParseC s := by
  have e : rpar s = rparC s := by unfold rpar rparC; rw [rval_C hs]
  unfold rParse rParseC rparE rparEC; rw [e]
end Lg
namespace Lg
open Go
theorem ljw_ne {l : List JV} {i : Nat} (c : UInt8) (h : i < l.length) (h0 : i ≠ 0) : ljw c (l.take i) ≠ [] := by
  cases l with
  | nil => simp at h
  | cons a r => obtain ⟨i, rfl⟩ : ∃ j, i = j + 1 := ⟨i - 1, by omega⟩; simp [ljw]
theorem mjw_ne {l : List (ByteArray × JV)} {i : Nat} (c : UInt8) (h : i < l.length) (h0 : i ≠ 0) : mjw c (l.take i) ≠ [] := by
  cases l with
  | nil => simp at h
  | cons a r => obtain ⟨i, rfl⟩ : ∃ j, i = j + 1 := ⟨i - 1, by omega⟩; obtain ⟨k, y⟩ := a; simp [mjw]
theorem tail_app {a b : BL} (h : a ≠ []) : (a ++ b).tail = a.tail ++ b := by cases a with
  | nil => exact absurd rfl h
  | cons => rfl
theorem ljw_tail {l : List JV} {i : Nat} {x : JV} (h : l[i]? = some x) : (ljw 44 (l.take (i + 1))).tail = (if i = 0 then [] else (ljw 44 (l.take i)).tail ++ [44]) ++ jtx x := by
  have hi := (List.getElem?_eq_some_iff.1 h).1
  rw [ljw_take 44 h]
  split
  · rename_i h0; subst h0; simp [ljw]
  · rename_i h0; rw [tail_app (ljw_ne 44 hi h0)]; simp
theorem mjw_tail {l : List (ByteArray × JV)} {i : Nat} {x : ByteArray × JV} (h : l[i]? = some x) : (mjw 44 (l.take (i + 1))).tail = (if i = 0 then [] else (mjw 44 (l.take i)).tail ++ [44]) ++ (quoteL x.1.data.toList ++ 58 :: jtx x.2) := by
  have hi := (List.getElem?_eq_some_iff.1 h).1
  rw [mjw_take 44 h]
  split
  · rename_i h0; subst h0; simp [mjw]
  · rename_i h0; rw [tail_app (mjw_ne 44 hi h0)]; simp
theorem jtx_4 {v : JV} (h : v.kind = 4) : jtx v = 91 :: ((ljw 44 v.l).tail ++ [93]) := by
  rw [jtx_eq, if_neg (by omega), if_neg (by omega), if_neg (by omega), if_pos h, ljw_head]
  split
  · rename_i h0; rw [List.length_eq_zero_iff.1 h0]; rfl
  · rfl
theorem jtx_5 {v : JV} (h : v.kind = 5) : jtx v = 123 :: ((mjw 44 v.m).tail ++ [125]) := by
  rw [jtx_eq, if_neg (by omega), if_neg (by omega), if_neg (by omega), if_neg (by omega), if_pos h, mjw_head]
  split
  · rename_i h0; rw [List.length_eq_zero_iff.1 h0]; rfl
  · rfl
def ex5 : ByteArray := ⟨#[123, 34, 98, 34, 58, 49, 46, 48, 44, 32, 34, 97, 34, 58, 91, 93, 125]⟩
theorem ex5_0 : (rParse ex5).2.1 = 0 := by rw [rParse_C (by decide)]; decide +kernel
theorem ex5_t : jtx (rParse ex5).1 = [123, 34, 97, 34, 58, 91, 93, 44, 34, 98, 34, 58, 49, 125] := by rw [rParse_C (by decide)]; decide +kernel
theorem ex5_ok [GLay] : jb (rParse ex5).1 ∧ jkb (rParse ex5).1 ∧ jsize (rParse ex5).1 ≤ 100 := by
  obtain ⟨h1, h2, h3, h4⟩ := rParse_ok ex5 ex5_0
  have h5 : ex5.size = 17 := rfl
  exact ⟨h2, may_kb _ _ (show jsize (rParse ex5).1 ≤ ((1000 : Nat) : Int) by omega) h1, by omega⟩
theorem vz_jb : jb vz ∧ jkb vz := by
  constructor
  · exact ⟨Nat.zero_le _, Nat.zero_le _, Nat.zero_le _, Nat.zero_le _, trivial, trivial⟩
  · exact ⟨by decide, by decide, ⟨by decide, by decide⟩, trivial, trivial⟩
theorem vz_tx : jtx vz = nullL := by rfl
end Lg
set_option maxRecDepth 20000
set_option maxHeartbeats 4000000
namespace Lg
open Go Go.Proofs Go.RowKit
variable [GLay] [S10]
theorem rsh_any (n : Nat) : ∀ (v : JV) (σ : List AO), jsize v ≤ n → jb v → jkb v → 20000000 * jsize v ≤ 100000000000000 → ACalls Tryd.prog 16 [.agg (vcells v)] σ (Ret (.str (ba (jtx v))) σ) := by
 induction n with
 | zero => intro v σ h; have := jsize_pos v; omega
 | succ n ih =>
 intro v σ hn hjb hkb hlen
 have hvs := jsize_eq v
 have hv1 := jsize_pos v
 have hl0 := lsize_nn v.l
 have hm0 := msize_nn v.m
 obtain ⟨hb1, hb2, hb3, hb4, hb5, hb6⟩ := (jb_eq v).1 hjb
 obtain ⟨hk1, hk2, hk3, hk4, hk5⟩ := (jkb_eq v).1 hkb
 refine ACalls_body Tryd.func16 rfl Tryd.ntmps16 (res1 Tryd.results16) (Nat.le_of_ble_eq_true rfl) (fun hcl hal => ?_)
 rw [vcells_eq v]
 refine zw2 ?_
 refine zw1 ?_
 refine AWp_seq ?_
 refine zw2 ?_
 refine AWp_block ?_
 refine zw2 ?_
 refine AWp_cond rfl (fun h1 => ?_) (fun h1 => ?_)
 ·(try rw [h1]); replace h1 := zcl h1
  refine zw1 ?_
  refine zrt ?_
  have hE : jtx v = nullL := by rw [jtx_eq, if_neg (by omega), if_neg (by omega), if_neg (by omega), if_neg (by omega), if_neg (by omega)]
  rw [hE]
  exact ResQ_1 rfl hcl trivial ⟨rfl, rfl⟩
 ·(try rw [h1]); replace h1 := zcl h1
  refine zw2 ?_
  refine AWp_cond rfl (fun h2 => ?_) (fun h2 => ?_)
  ·(try rw [h2]); replace h2 := zcl h2
   refine AWp_seq ?_
   refine zw2 ?_
   refine AWp_cond rfl (fun h3 => ?_) (fun h3 => ?_)
   ·(try rw [h3]); replace h3 := zcl h3
    refine zw1 ?_
    refine zrt ?_
    have hE : jtx v = trueL := by rw [jtx_eq, if_pos (by omega), if_pos (by assumption)]
    rw [hE]
    exact ResQ_1 rfl hcl trivial ⟨rfl, rfl⟩
   ·(try rw [h3]); replace h3 := zcl h3
    refine AWp_skip ?_
    refine zw1 ?_
    refine zrt ?_
    have hE : jtx v = falseL := by rw [jtx_eq, if_pos (by omega), if_neg (by simp [*])]
    rw [hE]
    exact ResQ_1 rfl hcl trivial ⟨rfl, rfl⟩
  ·(try rw [h2]); replace h2 := zcl h2
   refine zw2 ?_
   refine AWp_cond rfl (fun h4 => ?_) (fun h4 => ?_)
   ·(try rw [h4]); replace h4 := zcl h4
    refine zu2 ?_
    refine zt rfl (zc rfl (rshow_c v.n _ ⟨by omega, hk3.1, hk3.2⟩)) ?_
    refine zv1 ?_
    refine zrt ?_
    have hE : jtx v = (jshow v.n).data.toList := by rw [jtx_eq, if_neg (by omega), if_pos (by omega)]
    rw [hE, ← ba_eta]
    exact ResQ_1 rfl hcl trivial ⟨rfl, rfl⟩
   ·(try rw [h4]); replace h4 := zcl h4
    refine zw2 ?_
    refine AWp_cond rfl (fun h5 => ?_) (fun h5 => ?_)
    ·(try rw [h5]); replace h5 := zcl h5
     refine zu2 ?_
     refine zt rfl (zc rfl (rquoteT_c v.s _ (by omega))) ?_
     refine zv1 ?_
     refine zrt ?_
     have hE : jtx v = quoteL v.s.data.toList := by rw [jtx_eq, if_neg (by omega), if_neg (by omega), if_pos (by omega)]
     rw [hE]
     exact ResQ_1 rfl hcl trivial ⟨rfl, rfl⟩
    ·(try rw [h5]); replace h5 := zcl h5
     refine zw2 ?_
     refine AWp_cond rfl (fun h6 => ?_) (fun h6 => ?_)
     ·(try rw [h6]); replace h6 := zcl h6
      refine AWp_seq ?_
      refine zw1 ?_
      refine AWp_block ?_
      -- loop 0 LIVE 1:box 2:assign 3:assign 4:assign
      refine AWp_loop (ι := Nat) (fun i => i ≤ v.l.length) (fun i => ⟨[], [(1, .ptr (σ.length + 0) 0), (3, .str (ba (ljw 44 (v.l.take i)).tail)), (4, .int .i64 (i : Int))]⟩) (fun i => σ ++ [_]) (fun i => v.l.length - i) (0) (Nat.zero_le _) ?_ rfl (fun i hi => ?_)
      ·exact ⟨rfl, rfl, rfl, rfl, trivial⟩
      have hll := lcells_length v.l
      have hle := ljw_le (l := v.l) 44 hb5 hk4 i
      have htl : (ba (ljw 44 (v.l.take i)).tail).size ≤ (ljw 44 (v.l.take i)).length := by rw [ba_size, List.length_tail]; omega
      have z44 : (ByteArray.mk #[44]).size = 1 := rfl
      have z45 := ByteArray.size_append (a := ba (ljw 44 (v.l.take i)).tail) (b := ⟨#[44]⟩)
      refine AWp_seq ?_
      refine zw5 ?_
      refine AWp_cond rfl (fun h7 => ?_) (fun h7 => ?_)
      ·(try rw [h7]); replace h7 := zcl h7
       obtain ⟨x, hx⟩ : ∃ x, v.l[i]? = some x := ⟨_, List.getElem?_eq_getElem (show i < v.l.length by omega)⟩
       have hxs := lsize_mem hx
       have hjx := jtx_len x (lb_get hb5 hx) (lkb_get hk4 hx)
       refine AWp_skip ?_
       refine AWp_seq ?_
       refine AWp_block ?_
       refine AWp_seq ?_
       refine zw2 ?_
       refine AWp_cond rfl (fun h8 => ?_) (fun h8 => ?_)
       ·(try rw [h8]); replace h8 := zcl h8
        refine AWp_regL ?_
        refine zv3 ?_
        refine AWp_regL ?_
        refine zg5 ?_
        rw [vcells_eq x]
        refine zg1 ?_
        refine zt rfl (zc rfl (vcells_eq x ▸ ih x _ (by omega) (lb_get hb5 hx) (lkb_get hk4 hx) (by omega))) ?_
        have z1 : (ba (jtx x)).size = (jtx x).length := ba_size _
        refine zv2 ?_
        refine AWp_regL ?_
        refine zv3 ?_
        refine ⟨i + 1, σ.length + 1, by omega, by omega, by simp, ⟨rfl, rfl, ?_, rfl, trivial⟩, closed_own 1 hcl ?_, ?_, take_own 1⟩
        ·rw [ljw_tail hx]; refine congrArg AV.str (?_ : _ = _); first | (rw [if_neg (by omega), show (⟨#[44]⟩ : ByteArray) = ba [44] from rfl]; rw [ba_app, ba_app]) | (rw [if_pos (by omega), show i = 0 by omega]; show ba _ ++ ba _ = _; rw [ba_app]; rfl)
        ·simp [ownLt, AO.cells, AV.ltL, AV.lt]
        ·simp [ltE, AV.lt]
       ·(try rw [h8]); replace h8 := zcl h8
        refine AWp_skip ?_
        refine AWp_regL ?_
        refine zg5 ?_
        rw [vcells_eq x]
        refine zg1 ?_
        refine zt rfl (zc rfl (vcells_eq x ▸ ih x _ (by omega) (lb_get hb5 hx) (lkb_get hk4 hx) (by omega))) ?_
        have z1 : (ba (jtx x)).size = (jtx x).length := ba_size _
        refine zv2 ?_
        refine AWp_regL ?_
        refine zv3 ?_
        refine ⟨i + 1, σ.length + 1, by omega, by omega, by simp, ⟨rfl, rfl, ?_, rfl, trivial⟩, closed_own 1 hcl ?_, ?_, take_own 1⟩
        ·rw [ljw_tail hx]; refine congrArg AV.str (?_ : _ = _); first | (rw [if_neg (by omega), show (⟨#[44]⟩ : ByteArray) = ba [44] from rfl]; rw [ba_app, ba_app]) | (rw [if_pos (by omega), show i = 0 by omega]; show ba _ ++ ba _ = _; rw [ba_app]; rfl)
        ·simp [ownLt, AO.cells, AV.ltL, AV.lt]
        ·simp [ltE, AV.lt]
      ·(try rw [h7]); replace h7 := zcl h7
       refine AWp_exit ?_
       refine zsr ?_
       have z91 : (ByteArray.mk #[91]).size = 1 := rfl
       have z93 : (ByteArray.mk #[93]).size = 1 := rfl
       have z92 := ByteArray.size_append (a := (⟨#[91]⟩ : ByteArray)) (b := ba (ljw 44 (v.l.take i)).tail)
       refine zv4 ?_
       refine zrt ?_
       rw [jtx_4 (by omega), show i = v.l.length by omega, List.take_length]
       refine ResQ_1 rfl hcl trivial ⟨?_, rfl⟩
       rw [show (⟨#[91]⟩ : ByteArray) = ba [91] from rfl, show (⟨#[93]⟩ : ByteArray) = ba [93] from rfl, ba_app, ba_app]; simp
     ·(try rw [h6]); replace h6 := zcl h6
      refine AWp_skip ?_
      refine AWp_seq ?_
      refine zw1 ?_
      refine AWp_block ?_
      -- loop 1 LIVE 1:box 2:assign 3:assign 5:assign
      refine AWp_loop (ι := Nat) (fun i => i ≤ v.m.length) (fun i => ⟨[], [(1, .ptr (σ.length + 0) 0), (3, .str (ba (mjw 44 (v.m.take i)).tail)), (5, .int .i64 (i : Int))]⟩) (fun i => σ ++ [_]) (fun i => v.m.length - i) (0) (Nat.zero_le _) ?_ rfl (fun i hi => ?_)
      ·exact ⟨rfl, rfl, rfl, rfl, trivial⟩
      have hll := mcells_length v.m
      have hle := mjw_le (l := v.m) 44 hb6 hk5 i
      have htl : (ba (mjw 44 (v.m.take i)).tail).size ≤ (mjw 44 (v.m.take i)).length := by rw [ba_size, List.length_tail]; omega
      have z44 : (ByteArray.mk #[44]).size = 1 := rfl
      have z45 := ByteArray.size_append (a := ba (mjw 44 (v.m.take i)).tail) (b := ⟨#[44]⟩)
      refine AWp_seq ?_
      refine zw5 ?_
      refine AWp_cond rfl (fun h9 => ?_) (fun h9 => ?_)
      ·(try rw [h9]); replace h9 := zcl h9
       obtain ⟨q, hq⟩ : ∃ q, v.m[i]? = some q := ⟨_, List.getElem?_eq_getElem (show i < v.m.length by omega)⟩
       have hxs := msize_mem hq
       have hqb := mb_get hb6 hq
       have hjx := jtx_len q.2 hqb.2 (mkb_get hk5 hq)
       have z6 : (ba (jtx q.2)).size = (jtx q.2).length := ba_size _
       refine AWp_skip ?_
       refine AWp_seq ?_
       refine AWp_block ?_
       refine AWp_seq ?_
       refine zw2 ?_
       refine AWp_cond rfl (fun h10 => ?_) (fun h10 => ?_)
       ·(try rw [h10]); replace h10 := zcl h10
        refine AWp_regL ?_
        refine zv3 ?_
        refine AWp_drawL #[0, 0, 2, 0, 14, 30, 62, 126, 255, 511, 0, 1024, 0, 7168, 15360, 31744, 64766, 131071, 262143] Tryd.mixed (by decide +kernel) (by decide +kernel) ?_
        refine zd2 ?_
        refine zp1 ?_
        refine zd3 ?_
        refine zp1 ?_
        refine yP rfl rfl (zc rfl (rquoteT_c q.1 _ hqb.1)) (trivial) ?_
        have z2 : (ba (quoteL q.1.data.toList)).size = (quoteL q.1.data.toList).length := ba_size _
        have z3 := quote_size hqb.1
        have z58 : (ByteArray.mk #[58]).size = 1 := rfl
        refine zd3 ?_
        refine zp1 ?_
        refine zd3 ?_
        rw [vcells_eq q.2]
        refine zp1 ?_
        refine yP rfl rfl (zc rfl (vcells_eq q.2 ▸ ih q.2 _ (by omega) hqb.2 (mkb_get hk5 hq) (by omega))) (trivial) ?_
        refine zd2 ?_
        refine RP.nil rfl ?_
        refine AWp_regL ?_
        refine zv3 ?_
        refine ⟨i + 1, σ.length + 1, by omega, by omega, by simp, ⟨rfl, rfl, ?_, rfl, trivial⟩, closed_own 1 hcl ?_, ?_, take_own 1⟩
        ·rw [mjw_tail hq]; refine congrArg AV.str (?_ : _ = _); first | (rw [if_neg (by omega), show (⟨#[44]⟩ : ByteArray) = ba [44] from rfl]; rw [show (⟨#[58]⟩ : ByteArray) = ba [58] from rfl, ba_app, ba_app, ba_app, ba_app]; simp) | (rw [if_pos (by omega), show i = 0 by omega]; rw [show (⟨#[58]⟩ : ByteArray) = ba [58] from rfl, ba_app, ba_app, ba_app]; simp [mjw])
        ·simp [ownLt, AO.cells, AV.ltL, AV.lt]
        ·simp [ltE, AV.lt]
       ·(try rw [h10]); replace h10 := zcl h10
        refine AWp_skip ?_
        refine AWp_drawL #[0, 0, 2, 0, 14, 30, 62, 126, 255, 511, 0, 1024, 0, 7168, 15360, 31744, 64766, 131071, 262143] Tryd.mixed (by decide +kernel) (by decide +kernel) ?_
        refine zd2 ?_
        refine zp1 ?_
        refine zd3 ?_
        refine zp1 ?_
        refine yP rfl rfl (zc rfl (rquoteT_c q.1 _ hqb.1)) (trivial) ?_
        have z2 : (ba (quoteL q.1.data.toList)).size = (quoteL q.1.data.toList).length := ba_size _
        have z3 := quote_size hqb.1
        have z58 : (ByteArray.mk #[58]).size = 1 := rfl
        refine zd3 ?_
        refine zp1 ?_
        refine zd3 ?_
        rw [vcells_eq q.2]
        refine zp1 ?_
        refine yP rfl rfl (zc rfl (vcells_eq q.2 ▸ ih q.2 _ (by omega) hqb.2 (mkb_get hk5 hq) (by omega))) (trivial) ?_
        refine zd2 ?_
        refine RP.nil rfl ?_
        refine AWp_regL ?_
        refine zv3 ?_
        refine ⟨i + 1, σ.length + 1, by omega, by omega, by simp, ⟨rfl, rfl, ?_, rfl, trivial⟩, closed_own 1 hcl ?_, ?_, take_own 1⟩
        ·rw [mjw_tail hq]; refine congrArg AV.str (?_ : _ = _); first | (rw [if_neg (by omega), show (⟨#[44]⟩ : ByteArray) = ba [44] from rfl]; rw [show (⟨#[58]⟩ : ByteArray) = ba [58] from rfl, ba_app, ba_app, ba_app, ba_app]; simp) | (rw [if_pos (by omega), show i = 0 by omega]; rw [show (⟨#[58]⟩ : ByteArray) = ba [58] from rfl, ba_app, ba_app, ba_app]; simp [mjw])
        ·simp [ownLt, AO.cells, AV.ltL, AV.lt]
        ·simp [ltE, AV.lt]
      ·(try rw [h9]); replace h9 := zcl h9
       refine AWp_exit ?_
       refine zsr ?_
       have z91 : (ByteArray.mk #[123]).size = 1 := rfl
       have z93 : (ByteArray.mk #[125]).size = 1 := rfl
       have z92 := ByteArray.size_append (a := (⟨#[123]⟩ : ByteArray)) (b := ba (mjw 44 (v.m.take i)).tail)
       refine zv4 ?_
       refine zrt ?_
       rw [jtx_5 (by omega), show i = v.m.length by omega, List.take_length]
       refine ResQ_1 rfl hcl trivial ⟨?_, rfl⟩
       rw [show (⟨#[123]⟩ : ByteArray) = ba [123] from rfl, show (⟨#[125]⟩ : ByteArray) = ba [125] from rfl, ba_app, ba_app]; simp
end Lg
set_option maxRecDepth 20000
set_option maxHeartbeats 4000000
namespace Lg
open Go Go.Proofs Go.RowKit
variable [GLay] 
end Lg
set_option maxRecDepth 20000
set_option maxHeartbeats 4000000
namespace Lg
open Go Go.Proofs Go.RowKit
variable [GLay] 
theorem peek_c (s : ByteArray) (at0 deep bad spot : Int) (p : Nat) (σ : List AO) (hσ : σ[p]? = some (.box [.str s, .int .i64 at0, .int .i64 deep, .int .i64 bad, .int .i64 spot])) (h0 : 0 ≤ at0) : ACalls Tryd.prog 82 [.ptr p 0] σ (Ret (.int .i64 (pkv s at0 bad)) σ) := by
 refine ACalls_body Tryd.func82 rfl Tryd.ntmps82 (res1 Tryd.results82) (Nat.le_of_ble_eq_true rfl) (fun hcl hal => ?_)
 have hbl := bat_lt s at0.toNat
 refine zw1 ?_
 refine AWp_seq ?_
 refine AWp_seq ?_
 refine AWp_drawL #[0, 1, 3, 7, 15, 31, 63, 127, 255, 511, 63, 1087, 3135, 7231, 15423, 32767, 65535] Tryd.mixed (by decide +kernel) (by decide +kernel) ?_
 refine zd3 ?_
 refine zp1 ?_
 refine zd2 ?_
 refine zspr 8 rfl (fun h1 => ?_) fun h1 => ?_
 ·rw [h1]; replace h1 := zcl h1
  refine zd10 ?_
  refine zd1 ?_
  refine RP.nil rfl ?_
  refine AWp_condT rfl ?_
  refine zw1 ?_
  refine zrt ?_
  refine ResQ_10 rfl hcl trivial (Ret_of ?_)
  congr 1; unfold pkv; first | (rw [if_pos (by omega)]; done) | (rw [if_neg (by omega)]; done)
 ·rw [h1]; replace h1 := zcl h1
  refine zd3 ?_
  refine zp1 ?_
  refine zd3 ?_
  refine zp1 ?_
  refine zd3 ?_
  refine RP.nil rfl ?_
  refine AWp_cond rfl (fun h2 => ?_) (fun h2 => ?_)
  ·(try rw [h2]); replace h2 := zcl h2
   refine zw1 ?_
   refine zrt ?_
   refine ResQ_10 rfl hcl trivial (Ret_of ?_)
   congr 1; unfold pkv; first | (rw [if_pos (by omega)]; done) | (rw [if_neg (by omega)]; done)
  ·(try rw [h2]); replace h2 := zcl h2
   refine AWp_skip ?_
   refine AWp_seq ?_
   refine AWp_drawL #[0, 1, 3, 7, 0, 16, 48, 112, 255, 511, 1023] Tryd.mixed (by decide +kernel) (by decide +kernel) ?_
   refine zd3 ?_
   refine zp1 ?_
   refine zd3 ?_
   refine zp1 ?_
   refine zd3 ?_
   refine RP.nil rfl ?_
   refine zrt ?_
   refine ResQ_10 rfl hcl trivial (Ret_of ?_)
   congr 1; unfold pkv; first | (rw [if_pos (by omega)]; done) | (rw [if_neg (by omega)]; done)
end Lg
set_option maxRecDepth 20000
set_option maxHeartbeats 4000000
namespace Lg
open Go Go.Proofs Go.RowKit
variable [GLay] 
theorem fail_c (s : ByteArray) (at0 deep bad spot : Int) (p : Nat) (σ : List AO) (hσ : σ[p]? = some (.box [.str s, .int .i64 at0, .int .i64 deep, .int .i64 bad, .int .i64 spot])) (a b : Int) : ACalls Tryd.prog 59 [.ptr p 0, .int .i64 a, .int .i64 b] σ (Ret (.tup []) (σ.set p (.box [.str s, .int .i64 at0, .int .i64 deep, .int .i64 (if bad = 0 then b else bad), .int .i64 (if bad = 0 then a else spot)]))) := by
 have hp : p < σ.length := (List.getElem?_eq_some_iff.1 hσ).1
 refine ACalls_body Tryd.func59 rfl Tryd.ntmps59 (res0 Tryd.results59) (Nat.le_of_ble_eq_true rfl) (fun hcl hal => ?_)
 refine AWp_heap (set_same hσ) ?_
 refine zw5 ?_
 refine AWp_cond rfl (fun h1 => ?_) (fun h1 => ?_)
 ·(try rw [h1]); replace h1 := zcl h1
  refine zw5 ?_
  refine AWp_regL ?_
  refine zv5 ?_
  (try simp only [blockQ, thenQ])
  rw [if_pos h1, if_pos h1]
  exact ResQ_N0 (x := .box [.str s, .int .i64 at0, .int .i64 deep, .int .i64 b, .int .i64 a]) hcl (by simp [AO.cells, AV.ltL, AV.lt]) ⟨rfl, rfl⟩
 ·(try rw [h1]); replace h1 := zcl h1
  refine AWp_skip ?_
  (try simp only [blockQ, thenQ])
  rw [if_neg h1, if_neg h1]
  exact ResQ_N0 hcl (by simp [AO.cells, AV.ltL, AV.lt]) ⟨rfl, rfl⟩
end Lg
set_option maxRecDepth 20000
set_option maxHeartbeats 4000000
namespace Lg
open Go Go.Proofs Go.RowKit
variable [GLay] 
theorem blank_c (s : ByteArray) (a : Nat) (deep bad spot : Int) (p : Nat) (σ : List AO) (hσ : σ[p]? = some (.box [.str s, .int .i64 (a : Int), .int .i64 deep, .int .i64 bad, .int .i64 spot])) (hs : s.size ≤ 1000000) (ha : a ≤ 1000000) : ACalls Tryd.prog 81 [.ptr p 0] σ (Ret (.tup []) (σ.set p (.box [.str s, .int .i64 ((if bad = 0 then blk s a else a : Nat) : Int), .int .i64 deep, .int .i64 bad, .int .i64 spot]))) := by
 have hp : p < σ.length := (List.getElem?_eq_some_iff.1 hσ).1
 refine ACalls_body Tryd.func81 rfl Tryd.ntmps81 (res0 Tryd.results81) (Nat.le_of_ble_eq_true rfl) (fun hcl hal => ?_)
 refine AWp_heap (set_same hσ) ?_
 refine AWp_block ?_
 -- loop 0 LIVE 0:param
 refine AWp_loop (ι := Nat) (fun i => (bad = 0 → blk s i = blk s a) ∧ (bad ≠ 0 → i = a) ∧ i ≤ 1000000) (fun i => ⟨[], [(0, .ptr p 0)]⟩) (fun i => σ.set p (.box [.str s, .int .i64 (i : Int), .int .i64 deep, .int .i64 bad, .int .i64 spot])) (fun i => s.size - i) (a) (⟨fun _ => rfl, fun _ => rfl, ha⟩) ?_ rfl (fun i hi => ?_)
 ·exact ⟨rfl, rfl, trivial⟩
 obtain ⟨hi1, hi2, hi3⟩ := hi
 refine AWp_seq ?_
 refine zu1 ?_
 refine zt rfl (zc rfl (peek_c s (i : Int) deep bad spot p _ (get_set hp) (by omega))) ?_
 refine zg2 ?_
 refine zsp 5 rfl (fun h1 => ?_) fun h1 => ?_
 ·rw [h1]; replace h1 := zcl h1
  refine zg10 ?_
  refine zg4 ?_
  refine zon ?_
  refine AWp_condT rfl ?_
  refine AWp_skip ?_
  refine AWp_block ?_
  refine AWp_regL ?_
  refine zv8 ?_
  have hk := pk_yes (s := s) (a := i) (bad := bad) (by omega)
  have hbl : isbl (bat s i) := by simp only [isbl]; omega
  refine ⟨i + 1, σ.length, ⟨fun h => by rw [← blk_yes hk.2.1 hbl]; exact hi1 h, fun h => absurd hk.1 h, by omega⟩, by omega, by simp, ⟨rfl, rfl, trivial⟩, closed_set (x := .box [.str s, .int .i64 ((i : Int) + 1), .int .i64 deep, .int .i64 bad, .int .i64 spot]) hcl (by simp [AO.cells, AV.ltL, AV.lt]), ?_, take_set ?_⟩
  ·simp [ltE, AV.lt]; omega
  ·rw [Int.natCast_add]; rfl
 ·rw [h1]; replace h1 := zcl h1
  refine zg1 ?_
  refine ztG rfl rfl (zc rfl (peek_c s (i : Int) deep bad spot p _ (get_set hp) (by omega))) ?_
  refine zg3 ?_
  refine zsp 10 rfl (fun h2 => ?_) fun h2 => ?_
  ·rw [h2]; replace h2 := zcl h2
   refine zv9 ?_
   refine AWp_condT rfl ?_
   refine AWp_skip ?_
   refine AWp_block ?_
   refine AWp_regL ?_
   refine zv8 ?_
   have hk := pk_yes (s := s) (a := i) (bad := bad) (by omega)
   have hbl : isbl (bat s i) := by simp only [isbl]; omega
   refine ⟨i + 1, σ.length, ⟨fun h => by rw [← blk_yes hk.2.1 hbl]; exact hi1 h, fun h => absurd hk.1 h, by omega⟩, by omega, by simp, ⟨rfl, rfl, trivial⟩, closed_set (x := .box [.str s, .int .i64 ((i : Int) + 1), .int .i64 deep, .int .i64 bad, .int .i64 spot]) hcl (by simp [AO.cells, AV.ltL, AV.lt]), ?_, take_set ?_⟩
   ·simp [ltE, AV.lt]; omega
   ·rw [Int.natCast_add]; rfl
  ·rw [h2]; replace h2 := zcl h2
   refine zg1 ?_
   refine ztG rfl rfl (zc rfl (peek_c s (i : Int) deep bad spot p _ (get_set hp) (by omega))) ?_
   refine zg3 ?_
   refine zsp 15 rfl (fun h3 => ?_) fun h3 => ?_
   ·rw [h3]; replace h3 := zcl h3
    refine zv4 ?_
    refine AWp_condT rfl ?_
    refine AWp_skip ?_
    refine AWp_block ?_
    refine AWp_regL ?_
    refine zv8 ?_
    have hk := pk_yes (s := s) (a := i) (bad := bad) (by omega)
    have hbl : isbl (bat s i) := by simp only [isbl]; omega
    refine ⟨i + 1, σ.length, ⟨fun h => by rw [← blk_yes hk.2.1 hbl]; exact hi1 h, fun h => absurd hk.1 h, by omega⟩, by omega, by simp, ⟨rfl, rfl, trivial⟩, closed_set (x := .box [.str s, .int .i64 ((i : Int) + 1), .int .i64 deep, .int .i64 bad, .int .i64 spot]) hcl (by simp [AO.cells, AV.ltL, AV.lt]), ?_, take_set ?_⟩
    ·simp [ltE, AV.lt]; omega
    ·rw [Int.natCast_add]; rfl
   ·rw [h3]; replace h3 := zcl h3
    refine zg1 ?_
    refine ztG rfl rfl (zc rfl (peek_c s (i : Int) deep bad spot p _ (get_set hp) (by omega))) ?_
    refine zv2 ?_
    refine AWp_cond rfl (fun h4 => ?_) (fun h4 => ?_)
    ·(try rw [h4]); replace h4 := zcl h4
     refine AWp_skip ?_
     refine AWp_block ?_
     refine AWp_regL ?_
     refine zv8 ?_
     have hk := pk_yes (s := s) (a := i) (bad := bad) (by omega)
     have hbl : isbl (bat s i) := by simp only [isbl]; omega
     refine ⟨i + 1, σ.length, ⟨fun h => by rw [← blk_yes hk.2.1 hbl]; exact hi1 h, fun h => absurd hk.1 h, by omega⟩, by omega, by simp, ⟨rfl, rfl, trivial⟩, closed_set (x := .box [.str s, .int .i64 ((i : Int) + 1), .int .i64 deep, .int .i64 bad, .int .i64 spot]) hcl (by simp [AO.cells, AV.ltL, AV.lt]), ?_, take_set ?_⟩
     ·simp [ltE, AV.lt]; omega
     ·rw [Int.natCast_add]; rfl
    ·(try rw [h4]); replace h4 := zcl h4
     refine AWp_exit ?_
     (try simp only [blockQ, thenQ])
     have hfin : i = (if bad = 0 then blk s a else a) := by
      by_cases hb : bad = 0
      ·rw [if_pos hb, ← hi1 hb, blk_no]; intro hx; have := pk_in (s := s) hb hx.1; have := hx.2; simp only [isbl] at this; omega
      ·rw [if_neg hb]; exact hi2 hb
     rw [← hfin]
     exact ResQ_N0 (x := .box [.str s, .int .i64 (i : Int), .int .i64 deep, .int .i64 bad, .int .i64 spot]) hcl (by simp [AO.cells, AV.ltL, AV.lt]) ⟨rfl, rfl⟩
end Lg
set_option maxRecDepth 20000
set_option maxHeartbeats 4000000
namespace Lg
open Go Go.Proofs Go.RowKit
variable [GLay] 
theorem open_c (s : ByteArray) (a : Nat) (deep bad spot : Int) (p : Nat) (σ : List AO) (hσ : σ[p]? = some (.box [.str s, .int .i64 (a : Int), .int .i64 deep, .int .i64 bad, .int .i64 spot])) (hs : s.size ≤ 1000000) (ha : a < 1000000) (hd : 0 ≤ deep) (hd2 : deep ≤ 1000000) : ACalls Tryd.prog 105 [.ptr p 0] σ (Ret (.tup []) (σ.set p (.box [.str s, .int .i64 ((if (if deep = 32 then (if bad = 0 then 3 else bad) else bad) = 0 then blk s (a + 1) else a + 1 : Nat) : Int), .int .i64 (deep + 1), .int .i64 (if deep = 32 then (if bad = 0 then 3 else bad) else bad), .int .i64 (if deep = 32 then (if bad = 0 then (a : Int) else spot) else spot)]))) := by
 have hp : p < σ.length := (List.getElem?_eq_some_iff.1 hσ).1
 refine ACalls_body Tryd.func105 rfl Tryd.ntmps105 (res0 Tryd.results105) (Nat.le_of_ble_eq_true rfl) (fun hcl hal => ?_)
 refine AWp_heap (set_same hσ) ?_
 refine AWp_seq ?_
 refine zw5 ?_
 refine AWp_cond rfl (fun h1 => ?_) (fun h1 => ?_)
 ·(try rw [h1]); replace h1 := zcl h1
  refine AWp_regL ?_
  refine zg5 ?_
  refine zt rfl (zc rfl (callS (fail_c s (a : Int) deep bad spot p _ (get_set hp) (a : Int) 3))) ?_
  refine zon ?_
  refine zw8 ?_
  refine zw8 ?_
  refine AWp_regL ?_
  refine zg1 ?_
  refine zt rfl (zc rfl (callS (blank_c s (a + 1) (deep + 1) _ _ p _ (get_set hp) hs (by omega)))) ?_
  refine zon ?_
  (try simp only [blockQ, thenQ])
  simp only [if_pos h1]
  exact ResQ_N0 hcl (by simp [AO.cells, AV.ltL, AV.lt]) ⟨rfl, rfl⟩
 ·(try rw [h1]); replace h1 := zcl h1
  refine AWp_skip ?_
  refine zw8 ?_
  refine zw8 ?_
  refine AWp_regL ?_
  refine zg1 ?_
  refine zt rfl (zc rfl (callS (blank_c s (a + 1) (deep + 1) _ _ p _ (get_set hp) hs (by omega)))) ?_
  refine zon ?_
  (try simp only [blockQ, thenQ])
  simp only [if_neg h1]
  exact ResQ_N0 hcl (by simp [AO.cells, AV.ltL, AV.lt]) ⟨rfl, rfl⟩
end Lg
set_option maxRecDepth 20000
set_option maxHeartbeats 4000000
namespace Lg
open Go Go.Proofs Go.RowKit
variable [GLay] 
theorem run_n (s : ByteArray) (a : Nat) (σ : List AO) (hs : s.size ≤ 1000000) (ha : a ≤ 1000000) : ACalls Tryd.prog 108 [.str s, .int .i64 (a : Int)] σ (Ret (.int .i64 (runl s a : Int)) σ) := by
  have := run_c s (a : Int) σ (by omega) (by omega) (by omega)
  simpa using this
theorem end_c (s : ByteArray) (a : Nat) (σ : List AO) (hs : s.size ≤ 1000000) (ha : a ≤ s.size) : ACalls Tryd.prog 87 [.str s, .int .i64 (a : Int)] σ (Ret (.tup [.int .i64 ((rEnd s a).1 : Int), .bool (rEnd s a).2]) σ) := by
 refine ACalls_body Tryd.func87 rfl Tryd.ntmps87 (res2 Tryd.results87) (Nat.le_of_ble_eq_true rfl) (fun hcl hal => ?_)
 have hi1 := eSign_le ha
 have hr1 := runl_le s (eSign s a)
 refine zw2 ?_
 refine zw2 ?_
 refine AWp_join (ι := Unit) (fun b => True) (fun b => ⟨[], [(0, .str s), (6, .int .i64 (eSign s a : Int))]⟩) (fun b => σ) ?_ (fun b hj => ?_)
 ·skip
  refine zu5 ?_
  refine zsp 13 rfl (fun h1 => ?_) fun h1 => ?_
  ·rw [h1]; (try simp only [decide_eq_true_eq, decide_eq_false_iff_not, Bool.not_eq_true', Bool.not_eq_false', Int.not_lt, Int.not_le, Bool.not_true, Bool.not_false, Int.toNat_natCast, tn1, tn2, tnn, bne_iff_ne, beq_iff_eq, beq_eq_false_iff_ne, ne_eq, Decidable.not_not] at h1)
   refine zv5 ?_
   refine AWp_cond rfl (fun h2 => ?_) (fun h2 => ?_)
   ·(try rw [h2]); (try simp only [decide_eq_true_eq, decide_eq_false_iff_not, Bool.not_eq_true', Bool.not_eq_false', Int.not_lt, Int.not_le, Bool.not_true, Bool.not_false, Int.toNat_natCast, tn1, tn2, tnn, bne_iff_ne, beq_iff_eq, beq_eq_false_iff_ne, ne_eq, Decidable.not_not] at h2)
    refine AWp_regL ?_
    refine zv3 ?_
    refine ⟨(), trivial, ⟨rfl, rfl, ?_, trivial⟩, rfl⟩
    unfold eSign; first | (rw [if_pos (by omega)]; rfl) | (rw [if_neg (by omega)]; rfl)
   ·(try rw [h2]); (try simp only [decide_eq_true_eq, decide_eq_false_iff_not, Bool.not_eq_true', Bool.not_eq_false', Int.not_lt, Int.not_le, Bool.not_true, Bool.not_false, Int.toNat_natCast, tn1, tn2, tnn, bne_iff_ne, beq_iff_eq, beq_eq_false_iff_ne, ne_eq, Decidable.not_not] at h2)
    refine AWp_skip ?_
    refine ⟨(), trivial, ⟨rfl, rfl, ?_, trivial⟩, rfl⟩
    unfold eSign; first | (rw [if_pos (by omega)]; rfl) | (rw [if_neg (by omega)]; rfl)
  ·rw [h1]; (try simp only [decide_eq_true_eq, decide_eq_false_iff_not, Bool.not_eq_true', Bool.not_eq_false', Int.not_lt, Int.not_le, Bool.not_true, Bool.not_false, Int.toNat_natCast, tn1, tn2, tnn, bne_iff_ne, beq_iff_eq, beq_eq_false_iff_ne, ne_eq, Decidable.not_not] at h1)
   refine zv5 ?_
   refine AWp_condF rfl ?_
   refine AWp_skip ?_
   refine ⟨(), trivial, ⟨rfl, rfl, ?_, trivial⟩, rfl⟩
   unfold eSign; first | (rw [if_pos (by omega)]; rfl) | (rw [if_neg (by omega)]; rfl)
 ·skip
  refine zu2 ?_
  refine zt rfl (zc rfl (run_n s (eSign s a) _ hs (by omega))) ?_
  refine zv1 ?_
  refine AWp_seq ?_
  refine zw2 ?_
  refine AWp_cond rfl (fun h3 => ?_) (fun h3 => ?_)
  ·(try rw [h3]); (try simp only [decide_eq_true_eq, decide_eq_false_iff_not, Bool.not_eq_true', Bool.not_eq_false', Int.not_lt, Int.not_le, Bool.not_true, Bool.not_false, Int.toNat_natCast, tn1, tn2, tnn, bne_iff_ne, beq_iff_eq, beq_eq_false_iff_ne, ne_eq, Decidable.not_not] at h3)
   refine zw3 ?_
   refine zrt ?_
   have hE : rEnd s a = (eSign s a, false) := by unfold rEnd; rw [if_pos (by omega)]
   rw [hE]; exact ResQ_20 rfl rfl hcl (by simp [AV.lt, AV.ltL]) (Ret_of rfl)
  ·(try rw [h3]); (try simp only [decide_eq_true_eq, decide_eq_false_iff_not, Bool.not_eq_true', Bool.not_eq_false', Int.not_lt, Int.not_le, Bool.not_true, Bool.not_false, Int.toNat_natCast, tn1, tn2, tnn, bne_iff_ne, beq_iff_eq, beq_eq_false_iff_ne, ne_eq, Decidable.not_not] at h3)
   refine AWp_skip ?_
   refine AWp_join (ι := Unit) (fun b => True) (fun b => ⟨[], [(0, .str s), (6, .int .i64 (eSign s a : Int)), (7, .int .i64 (eInt s (eSign s a) : Int))]⟩) (fun b => σ) ?_ (fun b hj => ?_)
   ·skip
    refine zw4 ?_
    refine AWp_cond rfl (fun h4 => ?_) (fun h4 => ?_)
    ·(try rw [h4]); (try simp only [decide_eq_true_eq, decide_eq_false_iff_not, Bool.not_eq_true', Bool.not_eq_false', Int.not_lt, Int.not_le, Bool.not_true, Bool.not_false, Int.toNat_natCast, tn1, tn2, tnn, bne_iff_ne, beq_iff_eq, beq_eq_false_iff_ne, ne_eq, Decidable.not_not] at h4)
     refine AWp_regL ?_
     refine zv1 ?_
     refine ⟨(), trivial, ⟨rfl, rfl, rfl, ?_, trivial⟩, rfl⟩
     unfold eInt; first | (rw [if_pos (by omega)]; rfl) | (rw [if_neg (by omega)]; rfl)
    ·(try rw [h4]); (try simp only [decide_eq_true_eq, decide_eq_false_iff_not, Bool.not_eq_true', Bool.not_eq_false', Int.not_lt, Int.not_le, Bool.not_true, Bool.not_false, Int.toNat_natCast, tn1, tn2, tnn, bne_iff_ne, beq_iff_eq, beq_eq_false_iff_ne, ne_eq, Decidable.not_not] at h4)
     refine AWp_skip ?_
     refine ⟨(), trivial, ⟨rfl, rfl, rfl, ?_, trivial⟩, rfl⟩
     unfold eInt; first | (rw [if_pos (by omega)]; rfl) | (rw [if_neg (by omega)]; rfl)
   ·skip
    have hi2 := eInt_le hi1.2 (by omega)
    have hE : rEnd s a = eFrac s (eSign s a + eInt s (eSign s a)) := by unfold rEnd; rw [if_neg (by omega)]
    generalize hk : (eSign s a + eInt s (eSign s a)) = k at hE
    have hr2 := runl_le s (k + 1)
    refine zu3 ?_
    rw [← Int.natCast_add, hk]
    refine zv1 ?_
    refine AWp_join (ι := Nat) (fun j => rEnd s a = ePow s j ∧ j ≤ s.size) (fun j => ⟨[], [(0, .str s), (6, .int .i64 (j : Int))]⟩) (fun j => σ) ?_ (fun j hj => ?_)
    ·skip
     refine zu5 ?_
     refine zsp 38 rfl (fun h5 => ?_) fun h5 => ?_
     ·rw [h5]; (try simp only [decide_eq_true_eq, decide_eq_false_iff_not, Bool.not_eq_true', Bool.not_eq_false', Int.not_lt, Int.not_le, Bool.not_true, Bool.not_false, Int.toNat_natCast, tn1, tn2, tnn, bne_iff_ne, beq_iff_eq, beq_eq_false_iff_ne, ne_eq, Decidable.not_not] at h5)
      refine zv5 ?_
      refine AWp_cond rfl (fun h6 => ?_) (fun h6 => ?_)
      ·(try rw [h6]); (try simp only [decide_eq_true_eq, decide_eq_false_iff_not, Bool.not_eq_true', Bool.not_eq_false', Int.not_lt, Int.not_le, Bool.not_true, Bool.not_false, Int.toNat_natCast, tn1, tn2, tnn, bne_iff_ne, beq_iff_eq, beq_eq_false_iff_ne, ne_eq, Decidable.not_not] at h6)
       refine zu3 ?_
       refine zt rfl (zc rfl (run_n s (k + 1) _ hs (by omega))) ?_
       refine zv1 ?_
       refine zw5 ?_
       refine zw2 ?_
       refine AWp_cond rfl (fun h7 => ?_) (fun h7 => ?_)
       ·(try rw [h7]); (try simp only [decide_eq_true_eq, decide_eq_false_iff_not, Bool.not_eq_true', Bool.not_eq_false', Int.not_lt, Int.not_le, Bool.not_true, Bool.not_false, Int.toNat_natCast, tn1, tn2, tnn, bne_iff_ne, beq_iff_eq, beq_eq_false_iff_ne, ne_eq, Decidable.not_not] at h7)
        refine zw3 ?_
        refine zrt ?_
        have hE : rEnd s a = (k + 1, false) := by rw [hE]; unfold eFrac; rw [if_pos (by omega), if_pos (by omega)]
        rw [hE]; refine ResQ_20 rfl rfl hcl (by simp [AV.lt, AV.ltL]) (Ret_of ?_)
        congr 3; dsimp only; omega
       ·(try rw [h7]); (try simp only [decide_eq_true_eq, decide_eq_false_iff_not, Bool.not_eq_true', Bool.not_eq_false', Int.not_lt, Int.not_le, Bool.not_true, Bool.not_false, Int.toNat_natCast, tn1, tn2, tnn, bne_iff_ne, beq_iff_eq, beq_eq_false_iff_ne, ne_eq, Decidable.not_not] at h7)
        refine AWp_skip ?_
        first | refine ⟨k + 1 + runl s (k + 1), ⟨by rw [hE]; unfold eFrac; rw [if_pos (by omega), if_neg (by omega)], by omega⟩, ⟨rfl, rfl, rfl, trivial⟩, rfl⟩ | refine ⟨k, ⟨by rw [hE]; unfold eFrac; rw [if_neg (by omega)], by omega⟩, ⟨rfl, rfl, rfl, trivial⟩, rfl⟩
      ·(try rw [h6]); (try simp only [decide_eq_true_eq, decide_eq_false_iff_not, Bool.not_eq_true', Bool.not_eq_false', Int.not_lt, Int.not_le, Bool.not_true, Bool.not_false, Int.toNat_natCast, tn1, tn2, tnn, bne_iff_ne, beq_iff_eq, beq_eq_false_iff_ne, ne_eq, Decidable.not_not] at h6)
       refine AWp_skip ?_
       first | refine ⟨k + 1 + runl s (k + 1), ⟨by rw [hE]; unfold eFrac; rw [if_pos (by omega), if_neg (by omega)], by omega⟩, ⟨rfl, rfl, rfl, trivial⟩, rfl⟩ | refine ⟨k, ⟨by rw [hE]; unfold eFrac; rw [if_neg (by omega)], by omega⟩, ⟨rfl, rfl, rfl, trivial⟩, rfl⟩
     ·rw [h5]; (try simp only [decide_eq_true_eq, decide_eq_false_iff_not, Bool.not_eq_true', Bool.not_eq_false', Int.not_lt, Int.not_le, Bool.not_true, Bool.not_false, Int.toNat_natCast, tn1, tn2, tnn, bne_iff_ne, beq_iff_eq, beq_eq_false_iff_ne, ne_eq, Decidable.not_not] at h5)
      refine zv5 ?_
      refine AWp_condF rfl ?_
      refine AWp_skip ?_
      first | refine ⟨k + 1 + runl s (k + 1), ⟨by rw [hE]; unfold eFrac; rw [if_pos (by omega), if_neg (by omega)], by omega⟩, ⟨rfl, rfl, rfl, trivial⟩, rfl⟩ | refine ⟨k, ⟨by rw [hE]; unfold eFrac; rw [if_neg (by omega)], by omega⟩, ⟨rfl, rfl, rfl, trivial⟩, rfl⟩
    ·skip
     obtain ⟨hE, hj⟩ := hj
     refine AWp_seq ?_
     refine zu5 ?_
     refine zsp 59 rfl (fun h8 => ?_) fun h8 => ?_
     ·rw [h8]; (try simp only [decide_eq_true_eq, decide_eq_false_iff_not, Bool.not_eq_true', Bool.not_eq_false', Int.not_lt, Int.not_le, Bool.not_true, Bool.not_false, Int.toNat_natCast, tn1, tn2, tnn, bne_iff_ne, beq_iff_eq, beq_eq_false_iff_ne, ne_eq, Decidable.not_not] at h8)
      refine zg5 ?_
      refine zsp 64 rfl (fun h9 => ?_) fun h9 => ?_
      ·rw [h9]; (try simp only [decide_eq_true_eq, decide_eq_false_iff_not, Bool.not_eq_true', Bool.not_eq_false', Int.not_lt, Int.not_le, Bool.not_true, Bool.not_false, Int.toNat_natCast, tn1, tn2, tnn, bne_iff_ne, beq_iff_eq, beq_eq_false_iff_ne, ne_eq, Decidable.not_not] at h9)
       refine zv6 ?_
       refine AWp_condT rfl ?_
       refine zw3 ?_
       refine AWp_join (ι := Unit) (fun b => True) (fun b => ⟨[], [(0, .str s), (6, .int .i64 (eSg s (j + 1) : Int))]⟩) (fun b => σ) ?_ (fun b hj => ?_)
       ·skip
        refine zu5 ?_
        refine zsp 77 rfl (fun h10 => ?_) fun h10 => ?_
        ·rw [h10]; (try simp only [decide_eq_true_eq, decide_eq_false_iff_not, Bool.not_eq_true', Bool.not_eq_false', Int.not_lt, Int.not_le, Bool.not_true, Bool.not_false, Int.toNat_natCast, tn1, tn2, tnn, bne_iff_ne, beq_iff_eq, beq_eq_false_iff_ne, ne_eq, Decidable.not_not] at h10)
         refine zg5 ?_
         refine zsp 82 rfl (fun h11 => ?_) fun h11 => ?_
         ·rw [h11]; (try simp only [decide_eq_true_eq, decide_eq_false_iff_not, Bool.not_eq_true', Bool.not_eq_false', Int.not_lt, Int.not_le, Bool.not_true, Bool.not_false, Int.toNat_natCast, tn1, tn2, tnn, bne_iff_ne, beq_iff_eq, beq_eq_false_iff_ne, ne_eq, Decidable.not_not] at h11)
          refine zv6 ?_
          refine AWp_condT rfl ?_
          refine AWp_regL ?_
          refine zv3 ?_
          refine ⟨(), trivial, ⟨rfl, rfl, ?_, trivial⟩, rfl⟩
          unfold eSg; first | (rw [if_pos (by omega)]; rfl) | (rw [if_neg (by omega)]; rfl)
         ·rw [h11]; (try simp only [decide_eq_true_eq, decide_eq_false_iff_not, Bool.not_eq_true', Bool.not_eq_false', Int.not_lt, Int.not_le, Bool.not_true, Bool.not_false, Int.toNat_natCast, tn1, tn2, tnn, bne_iff_ne, beq_iff_eq, beq_eq_false_iff_ne, ne_eq, Decidable.not_not] at h11)
          refine zv6 ?_
          refine AWp_cond rfl (fun h12 => ?_) (fun h12 => ?_)
          ·(try rw [h12]); (try simp only [decide_eq_true_eq, decide_eq_false_iff_not, Bool.not_eq_true', Bool.not_eq_false', Int.not_lt, Int.not_le, Bool.not_true, Bool.not_false, Int.toNat_natCast, tn1, tn2, tnn, bne_iff_ne, beq_iff_eq, beq_eq_false_iff_ne, ne_eq, Decidable.not_not] at h12)
           refine AWp_regL ?_
           refine zv3 ?_
           refine ⟨(), trivial, ⟨rfl, rfl, ?_, trivial⟩, rfl⟩
           unfold eSg; first | (rw [if_pos (by omega)]; rfl) | (rw [if_neg (by omega)]; rfl)
          ·(try rw [h12]); (try simp only [decide_eq_true_eq, decide_eq_false_iff_not, Bool.not_eq_true', Bool.not_eq_false', Int.not_lt, Int.not_le, Bool.not_true, Bool.not_false, Int.toNat_natCast, tn1, tn2, tnn, bne_iff_ne, beq_iff_eq, beq_eq_false_iff_ne, ne_eq, Decidable.not_not] at h12)
           refine AWp_skip ?_
           refine ⟨(), trivial, ⟨rfl, rfl, ?_, trivial⟩, rfl⟩
           unfold eSg; first | (rw [if_pos (by omega)]; rfl) | (rw [if_neg (by omega)]; rfl)
        ·rw [h10]; (try simp only [decide_eq_true_eq, decide_eq_false_iff_not, Bool.not_eq_true', Bool.not_eq_false', Int.not_lt, Int.not_le, Bool.not_true, Bool.not_false, Int.toNat_natCast, tn1, tn2, tnn, bne_iff_ne, beq_iff_eq, beq_eq_false_iff_ne, ne_eq, Decidable.not_not] at h10)
         refine zg10 ?_
         refine zg1 ?_
         refine zon ?_
         refine AWp_condF rfl ?_
         refine AWp_skip ?_
         refine ⟨(), trivial, ⟨rfl, rfl, ?_, trivial⟩, rfl⟩
         unfold eSg; first | (rw [if_pos (by omega)]; rfl) | (rw [if_neg (by omega)]; rfl)
       ·skip
        have hi3 := eSg_le (s := s) (a := j + 1) (by omega)
        have hr3 := runl_le s (eSg s (j + 1))
        refine zu2 ?_
        refine zt rfl (zc rfl (run_n s (eSg s (j + 1)) _ hs (by omega))) ?_
        refine zv1 ?_
        refine zw4 ?_
        refine zw2 ?_
        refine AWp_cond rfl (fun h13 => ?_) (fun h13 => ?_)
        ·(try rw [h13]); (try simp only [decide_eq_true_eq, decide_eq_false_iff_not, Bool.not_eq_true', Bool.not_eq_false', Int.not_lt, Int.not_le, Bool.not_true, Bool.not_false, Int.toNat_natCast, tn1, tn2, tnn, bne_iff_ne, beq_iff_eq, beq_eq_false_iff_ne, ne_eq, Decidable.not_not] at h13)
         refine zw3 ?_
         refine zrt ?_
         first | (have hE2 : rEnd s a = (eSg s (j + 1), false) := by rw [hE]; unfold ePow; rw [if_pos (by omega), if_pos (by omega)]); rw [hE2]; (refine ResQ_20 rfl rfl hcl (by simp [AV.lt, AV.ltL]) (Ret_of ?_)); congr 3; dsimp only; omega | (have hE2 : rEnd s a = (eSg s (j + 1) + runl s (eSg s (j + 1)), true) := by rw [hE]; unfold ePow; rw [if_pos (by omega), if_neg (by omega)]); rw [hE2]; exact ResQ_20 rfl rfl hcl (by simp [AV.lt, AV.ltL]) (Ret_of rfl) | (have hE2 : rEnd s a = (j, true) := by rw [hE]; unfold ePow; rw [if_neg (by omega)]); rw [hE2]; exact ResQ_20 rfl rfl hcl (by simp [AV.lt, AV.ltL]) (Ret_of rfl)
        ·(try rw [h13]); (try simp only [decide_eq_true_eq, decide_eq_false_iff_not, Bool.not_eq_true', Bool.not_eq_false', Int.not_lt, Int.not_le, Bool.not_true, Bool.not_false, Int.toNat_natCast, tn1, tn2, tnn, bne_iff_ne, beq_iff_eq, beq_eq_false_iff_ne, ne_eq, Decidable.not_not] at h13)
         refine AWp_skip ?_
         refine zw3 ?_
         refine zrt ?_
         first | (have hE2 : rEnd s a = (eSg s (j + 1), false) := by rw [hE]; unfold ePow; rw [if_pos (by omega), if_pos (by omega)]); rw [hE2]; (refine ResQ_20 rfl rfl hcl (by simp [AV.lt, AV.ltL]) (Ret_of ?_)); congr 3; dsimp only; omega | (have hE2 : rEnd s a = (eSg s (j + 1) + runl s (eSg s (j + 1)), true) := by rw [hE]; unfold ePow; rw [if_pos (by omega), if_neg (by omega)]); rw [hE2]; exact ResQ_20 rfl rfl hcl (by simp [AV.lt, AV.ltL]) (Ret_of rfl) | (have hE2 : rEnd s a = (j, true) := by rw [hE]; unfold ePow; rw [if_neg (by omega)]); rw [hE2]; exact ResQ_20 rfl rfl hcl (by simp [AV.lt, AV.ltL]) (Ret_of rfl)
      ·rw [h9]; (try simp only [decide_eq_true_eq, decide_eq_false_iff_not, Bool.not_eq_true', Bool.not_eq_false', Int.not_lt, Int.not_le, Bool.not_true, Bool.not_false, Int.toNat_natCast, tn1, tn2, tnn, bne_iff_ne, beq_iff_eq, beq_eq_false_iff_ne, ne_eq, Decidable.not_not] at h9)
       refine zv6 ?_
       refine AWp_cond rfl (fun h14 => ?_) (fun h14 => ?_)
       ·(try rw [h14]); (try simp only [decide_eq_true_eq, decide_eq_false_iff_not, Bool.not_eq_true', Bool.not_eq_false', Int.not_lt, Int.not_le, Bool.not_true, Bool.not_false, Int.toNat_natCast, tn1, tn2, tnn, bne_iff_ne, beq_iff_eq, beq_eq_false_iff_ne, ne_eq, Decidable.not_not] at h14)
        refine zw3 ?_
        refine AWp_join (ι := Unit) (fun b => True) (fun b => ⟨[], [(0, .str s), (6, .int .i64 (eSg s (j + 1) : Int))]⟩) (fun b => σ) ?_ (fun b hj => ?_)
        ·skip
         refine zu5 ?_
         refine zsp 77 rfl (fun h15 => ?_) fun h15 => ?_
         ·rw [h15]; (try simp only [decide_eq_true_eq, decide_eq_false_iff_not, Bool.not_eq_true', Bool.not_eq_false', Int.not_lt, Int.not_le, Bool.not_true, Bool.not_false, Int.toNat_natCast, tn1, tn2, tnn, bne_iff_ne, beq_iff_eq, beq_eq_false_iff_ne, ne_eq, Decidable.not_not] at h15)
          refine zg5 ?_
          refine zsp 82 rfl (fun h16 => ?_) fun h16 => ?_
          ·rw [h16]; (try simp only [decide_eq_true_eq, decide_eq_false_iff_not, Bool.not_eq_true', Bool.not_eq_false', Int.not_lt, Int.not_le, Bool.not_true, Bool.not_false, Int.toNat_natCast, tn1, tn2, tnn, bne_iff_ne, beq_iff_eq, beq_eq_false_iff_ne, ne_eq, Decidable.not_not] at h16)
           refine zv6 ?_
           refine AWp_condT rfl ?_
           refine AWp_regL ?_
           refine zv3 ?_
           refine ⟨(), trivial, ⟨rfl, rfl, ?_, trivial⟩, rfl⟩
           unfold eSg; first | (rw [if_pos (by omega)]; rfl) | (rw [if_neg (by omega)]; rfl)
          ·rw [h16]; (try simp only [decide_eq_true_eq, decide_eq_false_iff_not, Bool.not_eq_true', Bool.not_eq_false', Int.not_lt, Int.not_le, Bool.not_true, Bool.not_false, Int.toNat_natCast, tn1, tn2, tnn, bne_iff_ne, beq_iff_eq, beq_eq_false_iff_ne, ne_eq, Decidable.not_not] at h16)
           refine zv6 ?_
           refine AWp_cond rfl (fun h17 => ?_) (fun h17 => ?_)
           ·(try rw [h17]); (try simp only [decide_eq_true_eq, decide_eq_false_iff_not, Bool.not_eq_true', Bool.not_eq_false', Int.not_lt, Int.not_le, Bool.not_true, Bool.not_false, Int.toNat_natCast, tn1, tn2, tnn, bne_iff_ne, beq_iff_eq, beq_eq_false_iff_ne, ne_eq, Decidable.not_not] at h17)
            refine AWp_regL ?_
            refine zv3 ?_
            refine ⟨(), trivial, ⟨rfl, rfl, ?_, trivial⟩, rfl⟩
            unfold eSg; first | (rw [if_pos (by omega)]; rfl) | (rw [if_neg (by omega)]; rfl)
           ·(try rw [h17]); (try simp only [decide_eq_true_eq, decide_eq_false_iff_not, Bool.not_eq_true', Bool.not_eq_false', Int.not_lt, Int.not_le, Bool.not_true, Bool.not_false, Int.toNat_natCast, tn1, tn2, tnn, bne_iff_ne, beq_iff_eq, beq_eq_false_iff_ne, ne_eq, Decidable.not_not] at h17)
            refine AWp_skip ?_
            refine ⟨(), trivial, ⟨rfl, rfl, ?_, trivial⟩, rfl⟩
            unfold eSg; first | (rw [if_pos (by omega)]; rfl) | (rw [if_neg (by omega)]; rfl)
         ·rw [h15]; (try simp only [decide_eq_true_eq, decide_eq_false_iff_not, Bool.not_eq_true', Bool.not_eq_false', Int.not_lt, Int.not_le, Bool.not_true, Bool.not_false, Int.toNat_natCast, tn1, tn2, tnn, bne_iff_ne, beq_iff_eq, beq_eq_false_iff_ne, ne_eq, Decidable.not_not] at h15)
          refine zg10 ?_
          refine zg1 ?_
          refine zon ?_
          refine AWp_condF rfl ?_
          refine AWp_skip ?_
          refine ⟨(), trivial, ⟨rfl, rfl, ?_, trivial⟩, rfl⟩
          unfold eSg; first | (rw [if_pos (by omega)]; rfl) | (rw [if_neg (by omega)]; rfl)
        ·skip
         have hi3 := eSg_le (s := s) (a := j + 1) (by omega)
         have hr3 := runl_le s (eSg s (j + 1))
         refine zu2 ?_
         refine zt rfl (zc rfl (run_n s (eSg s (j + 1)) _ hs (by omega))) ?_
         refine zv1 ?_
         refine zw4 ?_
         refine zw2 ?_
         refine AWp_cond rfl (fun h18 => ?_) (fun h18 => ?_)
         ·(try rw [h18]); (try simp only [decide_eq_true_eq, decide_eq_false_iff_not, Bool.not_eq_true', Bool.not_eq_false', Int.not_lt, Int.not_le, Bool.not_true, Bool.not_false, Int.toNat_natCast, tn1, tn2, tnn, bne_iff_ne, beq_iff_eq, beq_eq_false_iff_ne, ne_eq, Decidable.not_not] at h18)
          refine zw3 ?_
          refine zrt ?_
          first | (have hE2 : rEnd s a = (eSg s (j + 1), false) := by rw [hE]; unfold ePow; rw [if_pos (by omega), if_pos (by omega)]); rw [hE2]; (refine ResQ_20 rfl rfl hcl (by simp [AV.lt, AV.ltL]) (Ret_of ?_)); congr 3; dsimp only; omega | (have hE2 : rEnd s a = (eSg s (j + 1) + runl s (eSg s (j + 1)), true) := by rw [hE]; unfold ePow; rw [if_pos (by omega), if_neg (by omega)]); rw [hE2]; exact ResQ_20 rfl rfl hcl (by simp [AV.lt, AV.ltL]) (Ret_of rfl) | (have hE2 : rEnd s a = (j, true) := by rw [hE]; unfold ePow; rw [if_neg (by omega)]); rw [hE2]; exact ResQ_20 rfl rfl hcl (by simp [AV.lt, AV.ltL]) (Ret_of rfl)
         ·(try rw [h18]); (try simp only [decide_eq_true_eq, decide_eq_false_iff_not, Bool.not_eq_true', Bool.not_eq_false', Int.not_lt, Int.not_le, Bool.not_true, Bool.not_false, Int.toNat_natCast, tn1, tn2, tnn, bne_iff_ne, beq_iff_eq, beq_eq_false_iff_ne, ne_eq, Decidable.not_not] at h18)
          refine AWp_skip ?_
          refine zw3 ?_
          refine zrt ?_
          first | (have hE2 : rEnd s a = (eSg s (j + 1), false) := by rw [hE]; unfold ePow; rw [if_pos (by omega), if_pos (by omega)]); rw [hE2]; (refine ResQ_20 rfl rfl hcl (by simp [AV.lt, AV.ltL]) (Ret_of ?_)); congr 3; dsimp only; omega | (have hE2 : rEnd s a = (eSg s (j + 1) + runl s (eSg s (j + 1)), true) := by rw [hE]; unfold ePow; rw [if_pos (by omega), if_neg (by omega)]); rw [hE2]; exact ResQ_20 rfl rfl hcl (by simp [AV.lt, AV.ltL]) (Ret_of rfl) | (have hE2 : rEnd s a = (j, true) := by rw [hE]; unfold ePow; rw [if_neg (by omega)]); rw [hE2]; exact ResQ_20 rfl rfl hcl (by simp [AV.lt, AV.ltL]) (Ret_of rfl)
       ·(try rw [h14]); (try simp only [decide_eq_true_eq, decide_eq_false_iff_not, Bool.not_eq_true', Bool.not_eq_false', Int.not_lt, Int.not_le, Bool.not_true, Bool.not_false, Int.toNat_natCast, tn1, tn2, tnn, bne_iff_ne, beq_iff_eq, beq_eq_false_iff_ne, ne_eq, Decidable.not_not] at h14)
        refine AWp_skip ?_
        refine zw3 ?_
        refine zrt ?_
        first | (have hE2 : rEnd s a = (eSg s (j + 1), false) := by rw [hE]; unfold ePow; rw [if_pos (by omega), if_pos (by omega)]); rw [hE2]; (refine ResQ_20 rfl rfl hcl (by simp [AV.lt, AV.ltL]) (Ret_of ?_)); congr 3; dsimp only; omega | (have hE2 : rEnd s a = (eSg s (j + 1) + runl s (eSg s (j + 1)), true) := by rw [hE]; unfold ePow; rw [if_pos (by omega), if_neg (by omega)]); rw [hE2]; exact ResQ_20 rfl rfl hcl (by simp [AV.lt, AV.ltL]) (Ret_of rfl) | (have hE2 : rEnd s a = (j, true) := by rw [hE]; unfold ePow; rw [if_neg (by omega)]); rw [hE2]; exact ResQ_20 rfl rfl hcl (by simp [AV.lt, AV.ltL]) (Ret_of rfl)
     ·rw [h8]; (try simp only [decide_eq_true_eq, decide_eq_false_iff_not, Bool.not_eq_true', Bool.not_eq_false', Int.not_lt, Int.not_le, Bool.not_true, Bool.not_false, Int.toNat_natCast, tn1, tn2, tnn, bne_iff_ne, beq_iff_eq, beq_eq_false_iff_ne, ne_eq, Decidable.not_not] at h8)
      refine zg10 ?_
      refine zg1 ?_
      refine zon ?_
      refine AWp_condF rfl ?_
      refine AWp_skip ?_
      refine zw3 ?_
      refine zrt ?_
      first | (have hE2 : rEnd s a = (eSg s (j + 1), false) := by rw [hE]; unfold ePow; rw [if_pos (by omega), if_pos (by omega)]); rw [hE2]; (refine ResQ_20 rfl rfl hcl (by simp [AV.lt, AV.ltL]) (Ret_of ?_)); congr 3; dsimp only; omega | (have hE2 : rEnd s a = (eSg s (j + 1) + runl s (eSg s (j + 1)), true) := by rw [hE]; unfold ePow; rw [if_pos (by omega), if_neg (by omega)]); rw [hE2]; exact ResQ_20 rfl rfl hcl (by simp [AV.lt, AV.ltL]) (Ret_of rfl) | (have hE2 : rEnd s a = (j, true) := by rw [hE]; unfold ePow; rw [if_neg (by omega)]); rw [hE2]; exact ResQ_20 rfl rfl hcl (by simp [AV.lt, AV.ltL]) (Ret_of rfl)
end Lg
set_option maxRecDepth 20000
set_option maxHeartbeats 4000000
namespace Lg
open Go Go.Proofs Go.RowKit
variable [GLay] 
theorem hex_c (s : ByteArray) (a : Nat) (σ : List AO) (hs : s.size ≤ 1000000) (ha : a ≤ 2000000) : ACalls Tryd.prog 122 [.str s, .int .i64 (a : Int)] σ (Ret (.tup [.int .i64 (rhex s a).1, .int .i64 (rhex s a).2]) σ) := by
 refine ACalls_body Tryd.func122 rfl Tryd.ntmps122 (res2 Tryd.results122) (Nat.le_of_ble_eq_true rfl) (fun hcl hal => ?_)
 refine zw2 ?_
 refine zw1 ?_
 refine AWp_seq ?_
 refine zw2 ?_
 refine AWp_block ?_
 -- loop 0 LIVE 0:param 1:param 4:assign 5:assign 6:assign 7:assign
 refine AWp_loop (ι := Nat × Int) (fun q => hexF s q.1 (a + 4) q.2 = rhex s a ∧ a ≤ q.1 ∧ 0 ≤ q.2 ∧ ((q.1 = a ∧ q.2 = 0) ∨ (q.1 = a + 1 ∧ q.2 < 16) ∨ (q.1 = a + 2 ∧ q.2 < 256) ∨ (q.1 = a + 3 ∧ q.2 < 4096) ∨ (q.1 = a + 4 ∧ q.2 < 65536))) (fun q => ⟨[], [(0, .str s), (1, .int .i64 (a : Int)), (6, .int .i64 q.2), (7, .int .i64 (q.1 : Int))]⟩) (fun q => σ) (fun q => a + 4 - q.1) ((a, 0)) (⟨rfl, Nat.le_refl _, Int.le_refl _, .inl ⟨rfl, rfl⟩⟩) ?_ rfl (fun q hq => ?_)
 ·exact ⟨rfl, rfl, rfl, rfl, rfl, trivial⟩
 obtain ⟨i, v⟩ := q
 obtain ⟨hq1, hq2, hq3, hq4⟩ := hq
 simp only at hq1 hq2 hq3 hq4 ⊢
 have hbl := bat_lt s i
 refine AWp_seq ?_
 refine zw4 ?_
 refine AWp_cond rfl (fun h1 => ?_) (fun h1 => ?_)
 ·(try rw [h1]); (try simp only [decide_eq_true_eq, decide_eq_false_iff_not, Bool.not_eq_true', Bool.not_eq_false', Int.not_lt, Int.not_le, Bool.not_true, Bool.not_false, Int.toNat_natCast, tn1, tn2, tnn, bne_iff_ne, beq_iff_eq, beq_eq_false_iff_ne, ne_eq, Decidable.not_not] at h1)
  refine AWp_skip ?_
  refine AWp_seq ?_
  refine AWp_block ?_
  refine AWp_seq ?_
  refine zw4 ?_
  refine AWp_cond rfl (fun h2 => ?_) (fun h2 => ?_)
  ·(try rw [h2]); (try simp only [decide_eq_true_eq, decide_eq_false_iff_not, Bool.not_eq_true', Bool.not_eq_false', Int.not_lt, Int.not_le, Bool.not_true, Bool.not_false, Int.toNat_natCast, tn1, tn2, tnn, bne_iff_ne, beq_iff_eq, beq_eq_false_iff_ne, ne_eq, Decidable.not_not] at h2)
   refine zw3 ?_
   refine zrt ?_
   first | (have hE : rhex s a = (0, (i : Int)) := by rw [← hq1, hexF.eq_1 s i, if_pos (by omega)]; first | (rw [if_pos (by omega)]; done) | (rw [if_neg (by omega), if_pos (by omega)]; done)); rw [hE]; exact ResQ_20 rfl rfl hcl (by simp [AV.lt, AV.ltL]) (Ret_of rfl) | (have hE : rhex s a = (v, -1) := by rw [← hq1, hexF.eq_1 s i, if_neg (by omega)]); rw [hE]; exact ResQ_20 rfl rfl hcl (by simp [AV.lt, AV.ltL]) (Ret_of rfl)
  ·(try rw [h2]); (try simp only [decide_eq_true_eq, decide_eq_false_iff_not, Bool.not_eq_true', Bool.not_eq_false', Int.not_lt, Int.not_le, Bool.not_true, Bool.not_false, Int.toNat_natCast, tn1, tn2, tnn, bne_iff_ne, beq_iff_eq, beq_eq_false_iff_ne, ne_eq, Decidable.not_not] at h2)
   refine AWp_skip ?_
   refine zu3 ?_
   simp only [Int.toNat_natCast]
   refine zv2 ?_
   refine zw1 ?_
   refine AWp_join (ι := Unit) (fun b => True) (fun b => ⟨[], [(0, .str s), (1, .int .i64 (a : Int)), (6, .int .i64 v), (7, .int .i64 (i : Int)), (8, .int .i64 ((bat s i).toNat : Int)), (9, .int .i64 (hd1 (bat s i).toNat))]⟩) (fun b => σ) ?_ (fun b hj => ?_)
   ·skip
    refine zu3 ?_
    refine zsp 28 rfl (fun h3 => ?_) fun h3 => ?_
    ·rw [h3]; (try simp only [decide_eq_true_eq, decide_eq_false_iff_not, Bool.not_eq_true', Bool.not_eq_false', Int.not_lt, Int.not_le, Bool.not_true, Bool.not_false, Int.toNat_natCast, tn1, tn2, tnn, bne_iff_ne, beq_iff_eq, beq_eq_false_iff_ne, ne_eq, Decidable.not_not] at h3)
     refine zv3 ?_
     refine AWp_cond rfl (fun h4 => ?_) (fun h4 => ?_)
     ·(try rw [h4]); (try simp only [decide_eq_true_eq, decide_eq_false_iff_not, Bool.not_eq_true', Bool.not_eq_false', Int.not_lt, Int.not_le, Bool.not_true, Bool.not_false, Int.toNat_natCast, tn1, tn2, tnn, bne_iff_ne, beq_iff_eq, beq_eq_false_iff_ne, ne_eq, Decidable.not_not] at h4)
      refine AWp_regL ?_
      refine zv3 ?_
      refine ⟨(), trivial, ⟨rfl, rfl, rfl, rfl, rfl, rfl, ?_, trivial⟩, rfl⟩
      unfold hd1; first | (rw [if_pos (by omega)]; rfl) | (rw [if_neg (by omega)]; rfl)
     ·(try rw [h4]); (try simp only [decide_eq_true_eq, decide_eq_false_iff_not, Bool.not_eq_true', Bool.not_eq_false', Int.not_lt, Int.not_le, Bool.not_true, Bool.not_false, Int.toNat_natCast, tn1, tn2, tnn, bne_iff_ne, beq_iff_eq, beq_eq_false_iff_ne, ne_eq, Decidable.not_not] at h4)
      refine AWp_skip ?_
      refine ⟨(), trivial, ⟨rfl, rfl, rfl, rfl, rfl, rfl, ?_, trivial⟩, rfl⟩
      unfold hd1; first | (rw [if_pos (by omega)]; rfl) | (rw [if_neg (by omega)]; rfl)
    ·rw [h3]; (try simp only [decide_eq_true_eq, decide_eq_false_iff_not, Bool.not_eq_true', Bool.not_eq_false', Int.not_lt, Int.not_le, Bool.not_true, Bool.not_false, Int.toNat_natCast, tn1, tn2, tnn, bne_iff_ne, beq_iff_eq, beq_eq_false_iff_ne, ne_eq, Decidable.not_not] at h3)
     refine zv3 ?_
     refine AWp_condF rfl ?_
     refine AWp_skip ?_
     refine ⟨(), trivial, ⟨rfl, rfl, rfl, rfl, rfl, rfl, ?_, trivial⟩, rfl⟩
     unfold hd1; first | (rw [if_pos (by omega)]; rfl) | (rw [if_neg (by omega)]; rfl)
   ·skip
    refine AWp_join (ι := Unit) (fun b => True) (fun b => ⟨[], [(0, .str s), (1, .int .i64 (a : Int)), (6, .int .i64 v), (7, .int .i64 (i : Int)), (8, .int .i64 ((bat s i).toNat : Int)), (9, .int .i64 (hd2 (bat s i).toNat))]⟩) (fun b => σ) ?_ (fun b hj => ?_)
    ·skip
     refine zu3 ?_
     refine zsp 36 rfl (fun h5 => ?_) fun h5 => ?_
     ·rw [h5]; (try simp only [decide_eq_true_eq, decide_eq_false_iff_not, Bool.not_eq_true', Bool.not_eq_false', Int.not_lt, Int.not_le, Bool.not_true, Bool.not_false, Int.toNat_natCast, tn1, tn2, tnn, bne_iff_ne, beq_iff_eq, beq_eq_false_iff_ne, ne_eq, Decidable.not_not] at h5)
      refine zv3 ?_
      refine AWp_cond rfl (fun h6 => ?_) (fun h6 => ?_)
      ·(try rw [h6]); (try simp only [decide_eq_true_eq, decide_eq_false_iff_not, Bool.not_eq_true', Bool.not_eq_false', Int.not_lt, Int.not_le, Bool.not_true, Bool.not_false, Int.toNat_natCast, tn1, tn2, tnn, bne_iff_ne, beq_iff_eq, beq_eq_false_iff_ne, ne_eq, Decidable.not_not] at h6)
       refine AWp_regL ?_
       refine zv3 ?_
       refine ⟨(), trivial, ⟨rfl, rfl, rfl, rfl, rfl, rfl, ?_, trivial⟩, rfl⟩
       unfold hd2; first | (rw [if_pos (by omega)]; rfl) | (rw [if_neg (by omega)]; rfl)
      ·(try rw [h6]); (try simp only [decide_eq_true_eq, decide_eq_false_iff_not, Bool.not_eq_true', Bool.not_eq_false', Int.not_lt, Int.not_le, Bool.not_true, Bool.not_false, Int.toNat_natCast, tn1, tn2, tnn, bne_iff_ne, beq_iff_eq, beq_eq_false_iff_ne, ne_eq, Decidable.not_not] at h6)
       refine AWp_skip ?_
       refine ⟨(), trivial, ⟨rfl, rfl, rfl, rfl, rfl, rfl, ?_, trivial⟩, rfl⟩
       unfold hd2; first | (rw [if_pos (by omega)]; rfl) | (rw [if_neg (by omega)]; rfl)
     ·rw [h5]; (try simp only [decide_eq_true_eq, decide_eq_false_iff_not, Bool.not_eq_true', Bool.not_eq_false', Int.not_lt, Int.not_le, Bool.not_true, Bool.not_false, Int.toNat_natCast, tn1, tn2, tnn, bne_iff_ne, beq_iff_eq, beq_eq_false_iff_ne, ne_eq, Decidable.not_not] at h5)
      refine zv3 ?_
      refine AWp_condF rfl ?_
      refine AWp_skip ?_
      refine ⟨(), trivial, ⟨rfl, rfl, rfl, rfl, rfl, rfl, ?_, trivial⟩, rfl⟩
      unfold hd2; first | (rw [if_pos (by omega)]; rfl) | (rw [if_neg (by omega)]; rfl)
    ·skip
     refine AWp_join (ι := Unit) (fun b => True) (fun b => ⟨[], [(0, .str s), (1, .int .i64 (a : Int)), (6, .int .i64 v), (7, .int .i64 (i : Int)), (8, .int .i64 ((bat s i).toNat : Int)), (9, .int .i64 (hexd (bat s i).toNat))]⟩) (fun b => σ) ?_ (fun b hj => ?_)
     ·skip
      refine zu3 ?_
      refine zsp 44 rfl (fun h7 => ?_) fun h7 => ?_
      ·rw [h7]; (try simp only [decide_eq_true_eq, decide_eq_false_iff_not, Bool.not_eq_true', Bool.not_eq_false', Int.not_lt, Int.not_le, Bool.not_true, Bool.not_false, Int.toNat_natCast, tn1, tn2, tnn, bne_iff_ne, beq_iff_eq, beq_eq_false_iff_ne, ne_eq, Decidable.not_not] at h7)
       refine zv3 ?_
       refine AWp_cond rfl (fun h8 => ?_) (fun h8 => ?_)
       ·(try rw [h8]); (try simp only [decide_eq_true_eq, decide_eq_false_iff_not, Bool.not_eq_true', Bool.not_eq_false', Int.not_lt, Int.not_le, Bool.not_true, Bool.not_false, Int.toNat_natCast, tn1, tn2, tnn, bne_iff_ne, beq_iff_eq, beq_eq_false_iff_ne, ne_eq, Decidable.not_not] at h8)
        refine AWp_regL ?_
        refine zv3 ?_
        refine ⟨(), trivial, ⟨rfl, rfl, rfl, rfl, rfl, rfl, ?_, trivial⟩, rfl⟩
        unfold hexd; first | (rw [if_pos (by omega)]; rfl) | (rw [if_neg (by omega)]; rfl)
       ·(try rw [h8]); (try simp only [decide_eq_true_eq, decide_eq_false_iff_not, Bool.not_eq_true', Bool.not_eq_false', Int.not_lt, Int.not_le, Bool.not_true, Bool.not_false, Int.toNat_natCast, tn1, tn2, tnn, bne_iff_ne, beq_iff_eq, beq_eq_false_iff_ne, ne_eq, Decidable.not_not] at h8)
        refine AWp_skip ?_
        refine ⟨(), trivial, ⟨rfl, rfl, rfl, rfl, rfl, rfl, ?_, trivial⟩, rfl⟩
        unfold hexd; first | (rw [if_pos (by omega)]; rfl) | (rw [if_neg (by omega)]; rfl)
      ·rw [h7]; (try simp only [decide_eq_true_eq, decide_eq_false_iff_not, Bool.not_eq_true', Bool.not_eq_false', Int.not_lt, Int.not_le, Bool.not_true, Bool.not_false, Int.toNat_natCast, tn1, tn2, tnn, bne_iff_ne, beq_iff_eq, beq_eq_false_iff_ne, ne_eq, Decidable.not_not] at h7)
       refine zv3 ?_
       refine AWp_condF rfl ?_
       refine AWp_skip ?_
       refine ⟨(), trivial, ⟨rfl, rfl, rfl, rfl, rfl, rfl, ?_, trivial⟩, rfl⟩
       unfold hexd; first | (rw [if_pos (by omega)]; rfl) | (rw [if_neg (by omega)]; rfl)
     ·skip
      have hdd := hexd_lt (bat s i).toNat
      refine AWp_seq ?_
      refine zw2 ?_
      refine AWp_cond rfl (fun h9 => ?_) (fun h9 => ?_)
      ·(try rw [h9]); (try simp only [decide_eq_true_eq, decide_eq_false_iff_not, Bool.not_eq_true', Bool.not_eq_false', Int.not_lt, Int.not_le, Bool.not_true, Bool.not_false, Int.toNat_natCast, tn1, tn2, tnn, bne_iff_ne, beq_iff_eq, beq_eq_false_iff_ne, ne_eq, Decidable.not_not] at h9)
       refine zw3 ?_
       refine zrt ?_
       first | (have hE : rhex s a = (0, (i : Int)) := by rw [← hq1, hexF.eq_1 s i, if_pos (by omega)]; first | (rw [if_pos (by omega)]; done) | (rw [if_neg (by omega), if_pos (by omega)]; done)); rw [hE]; exact ResQ_20 rfl rfl hcl (by simp [AV.lt, AV.ltL]) (Ret_of rfl) | (have hE : rhex s a = (v, -1) := by rw [← hq1, hexF.eq_1 s i, if_neg (by omega)]); rw [hE]; exact ResQ_20 rfl rfl hcl (by simp [AV.lt, AV.ltL]) (Ret_of rfl)
      ·(try rw [h9]); (try simp only [decide_eq_true_eq, decide_eq_false_iff_not, Bool.not_eq_true', Bool.not_eq_false', Int.not_lt, Int.not_le, Bool.not_true, Bool.not_false, Int.toNat_natCast, tn1, tn2, tnn, bne_iff_ne, beq_iff_eq, beq_eq_false_iff_ne, ne_eq, Decidable.not_not] at h9)
       refine AWp_skip ?_
       refine AWp_regL ?_
       refine zv5 ?_
       refine AWp_regL ?_
       refine zv3 ?_
       refine ⟨(i + 1, 16 * v + hexd (bat s i).toNat), σ.length, ⟨?_, ?_, ?_, ?_⟩, ?_, Nat.le_refl _, ⟨rfl, rfl, rfl, rfl, rfl, trivial⟩, hcl, ?_, List.take_length⟩
       ·rw [← hq1, hexF.eq_1 s i, if_pos (by omega), if_neg (by omega), if_neg (by omega)]
       ·simp only; omega
       ·simp only; omega
       ·simp only; omega
       ·simp only; omega
       ·simp [ltE, AV.lt]
 ·(try rw [h1]); (try simp only [decide_eq_true_eq, decide_eq_false_iff_not, Bool.not_eq_true', Bool.not_eq_false', Int.not_lt, Int.not_le, Bool.not_true, Bool.not_false, Int.toNat_natCast, tn1, tn2, tnn, bne_iff_ne, beq_iff_eq, beq_eq_false_iff_ne, ne_eq, Decidable.not_not] at h1)
  refine AWp_exit ?_
  refine zw3 ?_
  refine zrt ?_
  first | (have hE : rhex s a = (0, (i : Int)) := by rw [← hq1, hexF.eq_1 s i, if_pos (by omega)]; first | (rw [if_pos (by omega)]; done) | (rw [if_neg (by omega), if_pos (by omega)]; done)); rw [hE]; exact ResQ_20 rfl rfl hcl (by simp [AV.lt, AV.ltL]) (Ret_of rfl) | (have hE : rhex s a = (v, -1) := by rw [← hq1, hexF.eq_1 s i, if_neg (by omega)]); rw [hE]; exact ResQ_20 rfl rfl hcl (by simp [AV.lt, AV.ltL]) (Ret_of rfl)

theorem low_c (s : ByteArray) (a : Nat) (σ : List AO) (hs : s.size ≤ 1000000) (ha : a ≤ 2000000) : ACalls Tryd.prog 123 [.str s, .int .i64 (a : Int)] σ (Ret (.int .i64 (rlow s a)) σ) := by
 refine ACalls_body Tryd.func123 rfl Tryd.ntmps123 (res1 Tryd.results123) (Nat.le_of_ble_eq_true rfl) (fun hcl hal => ?_)
 have hh := rhex_ok s (a + 2)
 refine zw1 ?_
 refine AWp_seq ?_
 refine zw5 ?_
 refine AWp_cond rfl (fun h1 => ?_) (fun h1 => ?_)
 ·(try rw [h1]); (try simp only [decide_eq_true_eq, decide_eq_false_iff_not, Bool.not_eq_true', Bool.not_eq_false', Int.not_lt, Int.not_le, Bool.not_true, Bool.not_false, Int.toNat_natCast, tn1, tn2, tnn, bne_iff_ne, beq_iff_eq, beq_eq_false_iff_ne, ne_eq, Decidable.not_not] at h1)
  refine zw1 ?_
  refine zrt ?_
  refine ResQ_10 rfl hcl (by simp [AV.lt, AV.ltL]) (Ret_of ?_)
  congr 1; unfold rlow; first | (rw [if_pos (by omega)]; done) | (rw [if_neg (by omega), if_pos (by omega)]; done) | (rw [if_neg (by omega), if_neg (by omega), if_pos (by omega)]; done) | (rw [if_neg (by omega), if_neg (by omega), if_neg (by omega)]; done)
 ·(try rw [h1]); (try simp only [decide_eq_true_eq, decide_eq_false_iff_not, Bool.not_eq_true', Bool.not_eq_false', Int.not_lt, Int.not_le, Bool.not_true, Bool.not_false, Int.toNat_natCast, tn1, tn2, tnn, bne_iff_ne, beq_iff_eq, beq_eq_false_iff_ne, ne_eq, Decidable.not_not] at h1)
  refine AWp_skip ?_
  refine AWp_seq ?_
  refine zu5 ?_
  refine zsp 16 rfl (fun h2 => ?_) fun h2 => ?_
  ·rw [h2]; (try simp only [decide_eq_true_eq, decide_eq_false_iff_not, Bool.not_eq_true', Bool.not_eq_false', Int.not_lt, Int.not_le, Bool.not_true, Bool.not_false, Int.toNat_natCast, tn1, tn2, tnn, bne_iff_ne, beq_iff_eq, beq_eq_false_iff_ne, ne_eq, Decidable.not_not] at h2)
   refine zv6 ?_
   refine AWp_condT rfl ?_
   refine zw1 ?_
   refine zrt ?_
   refine ResQ_10 rfl hcl (by simp [AV.lt, AV.ltL]) (Ret_of ?_)
   congr 1; unfold rlow; first | (rw [if_pos (by omega)]; done) | (rw [if_neg (by omega), if_pos (by omega)]; done) | (rw [if_neg (by omega), if_neg (by omega), if_pos (by omega)]; done) | (rw [if_neg (by omega), if_neg (by omega), if_neg (by omega)]; done)
  ·rw [h2]; (try simp only [decide_eq_true_eq, decide_eq_false_iff_not, Bool.not_eq_true', Bool.not_eq_false', Int.not_lt, Int.not_le, Bool.not_true, Bool.not_false, Int.toNat_natCast, tn1, tn2, tnn, bne_iff_ne, beq_iff_eq, beq_eq_false_iff_ne, ne_eq, Decidable.not_not] at h2)
   refine zv6 ?_
   refine AWp_cond rfl (fun h3 => ?_) (fun h3 => ?_)
   ·(try rw [h3]); (try simp only [decide_eq_true_eq, decide_eq_false_iff_not, Bool.not_eq_true', Bool.not_eq_false', Int.not_lt, Int.not_le, Bool.not_true, Bool.not_false, Int.toNat_natCast, tn1, tn2, tnn, bne_iff_ne, beq_iff_eq, beq_eq_false_iff_ne, ne_eq, Decidable.not_not] at h3)
    refine zw1 ?_
    refine zrt ?_
    refine ResQ_10 rfl hcl (by simp [AV.lt, AV.ltL]) (Ret_of ?_)
    congr 1; unfold rlow; first | (rw [if_pos (by omega)]; done) | (rw [if_neg (by omega), if_pos (by omega)]; done) | (rw [if_neg (by omega), if_neg (by omega), if_pos (by omega)]; done) | (rw [if_neg (by omega), if_neg (by omega), if_neg (by omega)]; done)
   ·(try rw [h3]); (try simp only [decide_eq_true_eq, decide_eq_false_iff_not, Bool.not_eq_true', Bool.not_eq_false', Int.not_lt, Int.not_le, Bool.not_true, Bool.not_false, Int.toNat_natCast, tn1, tn2, tnn, bne_iff_ne, beq_iff_eq, beq_eq_false_iff_ne, ne_eq, Decidable.not_not] at h3)
    refine AWp_skip ?_
    refine zu3 ?_
    refine zt rfl (zc rfl (hex_c s (a + 2) _ hs (by omega))) ?_
    refine zv5 ?_
    refine AWp_seq ?_
    refine zu3 ?_
    refine zsp 32 rfl (fun h4 => ?_) fun h4 => ?_
    ·rw [h4]; (try simp only [decide_eq_true_eq, decide_eq_false_iff_not, Bool.not_eq_true', Bool.not_eq_false', Int.not_lt, Int.not_le, Bool.not_true, Bool.not_false, Int.toNat_natCast, tn1, tn2, tnn, bne_iff_ne, beq_iff_eq, beq_eq_false_iff_ne, ne_eq, Decidable.not_not] at h4)
     refine zv7 ?_
     refine AWp_condT rfl ?_
     refine zw1 ?_
     refine zrt ?_
     refine ResQ_10 rfl hcl (by simp [AV.lt, AV.ltL]) (Ret_of ?_)
     congr 1; unfold rlow; first | (rw [if_pos (by omega)]; done) | (rw [if_neg (by omega), if_pos (by omega)]; done) | (rw [if_neg (by omega), if_neg (by omega), if_pos (by omega)]; done) | (rw [if_neg (by omega), if_neg (by omega), if_neg (by omega)]; done)
    ·rw [h4]; (try simp only [decide_eq_true_eq, decide_eq_false_iff_not, Bool.not_eq_true', Bool.not_eq_false', Int.not_lt, Int.not_le, Bool.not_true, Bool.not_false, Int.toNat_natCast, tn1, tn2, tnn, bne_iff_ne, beq_iff_eq, beq_eq_false_iff_ne, ne_eq, Decidable.not_not] at h4)
     refine zg4 ?_
     refine zsp 36 rfl (fun h5 => ?_) fun h5 => ?_
     ·rw [h5]; (try simp only [decide_eq_true_eq, decide_eq_false_iff_not, Bool.not_eq_true', Bool.not_eq_false', Int.not_lt, Int.not_le, Bool.not_true, Bool.not_false, Int.toNat_natCast, tn1, tn2, tnn, bne_iff_ne, beq_iff_eq, beq_eq_false_iff_ne, ne_eq, Decidable.not_not] at h5)
      refine zv3 ?_
      refine AWp_condT rfl ?_
      refine zw1 ?_
      refine zrt ?_
      refine ResQ_10 rfl hcl (by simp [AV.lt, AV.ltL]) (Ret_of ?_)
      congr 1; unfold rlow; first | (rw [if_pos (by omega)]; done) | (rw [if_neg (by omega), if_pos (by omega)]; done) | (rw [if_neg (by omega), if_neg (by omega), if_pos (by omega)]; done) | (rw [if_neg (by omega), if_neg (by omega), if_neg (by omega)]; done)
     ·rw [h5]; (try simp only [decide_eq_true_eq, decide_eq_false_iff_not, Bool.not_eq_true', Bool.not_eq_false', Int.not_lt, Int.not_le, Bool.not_true, Bool.not_false, Int.toNat_natCast, tn1, tn2, tnn, bne_iff_ne, beq_iff_eq, beq_eq_false_iff_ne, ne_eq, Decidable.not_not] at h5)
      refine zv3 ?_
      refine AWp_cond rfl (fun h6 => ?_) (fun h6 => ?_)
      ·(try rw [h6]); (try simp only [decide_eq_true_eq, decide_eq_false_iff_not, Bool.not_eq_true', Bool.not_eq_false', Int.not_lt, Int.not_le, Bool.not_true, Bool.not_false, Int.toNat_natCast, tn1, tn2, tnn, bne_iff_ne, beq_iff_eq, beq_eq_false_iff_ne, ne_eq, Decidable.not_not] at h6)
       refine zw1 ?_
       refine zrt ?_
       refine ResQ_10 rfl hcl (by simp [AV.lt, AV.ltL]) (Ret_of ?_)
       congr 1; unfold rlow; first | (rw [if_pos (by omega)]; done) | (rw [if_neg (by omega), if_pos (by omega)]; done) | (rw [if_neg (by omega), if_neg (by omega), if_pos (by omega)]; done) | (rw [if_neg (by omega), if_neg (by omega), if_neg (by omega)]; done)
      ·(try rw [h6]); (try simp only [decide_eq_true_eq, decide_eq_false_iff_not, Bool.not_eq_true', Bool.not_eq_false', Int.not_lt, Int.not_le, Bool.not_true, Bool.not_false, Int.toNat_natCast, tn1, tn2, tnn, bne_iff_ne, beq_iff_eq, beq_eq_false_iff_ne, ne_eq, Decidable.not_not] at h6)
       refine AWp_skip ?_
       refine zw2 ?_
       refine zrt ?_
       refine ResQ_10 rfl hcl (by simp [AV.lt, AV.ltL]) (Ret_of ?_)
       congr 1; unfold rlow; first | (rw [if_pos (by omega)]; done) | (rw [if_neg (by omega), if_pos (by omega)]; done) | (rw [if_neg (by omega), if_neg (by omega), if_pos (by omega)]; done) | (rw [if_neg (by omega), if_neg (by omega), if_neg (by omega)]; done)

theorem char_c (v : Int) (σ : List AO) (h0 : 0 ≤ v) (h1 : v < 1114112) : ACalls Tryd.prog 124 [.int .i64 v] σ (Ret (.str (rchar v)) σ) := by
 refine ACalls_body Tryd.func124 rfl Tryd.ntmps124 (res1 Tryd.results124) (Nat.le_of_ble_eq_true rfl) (fun hcl hal => ?_)
 refine zw1 ?_
 refine AWp_seq ?_
 refine zw2 ?_
 refine AWp_cond rfl (fun h1 => ?_) (fun h1 => ?_)
 ·(try rw [h1]); replace h1 := zcl h1
  refine zu2 ?_
  refine zt rfl (op_buildSlice [[_]] rfl Tryd.underlying56 Tryd.sizeOf5 Tryd.zeroValue5 rfl (by decide) (by decide) rfl rfl rfl rfl rfl) ?_
  refine zt rfl (op_bytesStr (b := _) (m := 1) rfl Tryd.underlying56 Tryd.underlying5 Tryd.underlying9 (bs1 ⟨by omega, by omega⟩) rfl rfl) ?_
  refine zv1 ?_
  refine zrt ?_
  refine ResQ_10 rfl hcl (by simp [AV.lt, AV.ltL]) (Ret_of ?_)
  congr 1; unfold rchar; first | (rw [if_pos (by omega)]; done) | (rw [if_neg (by omega), if_pos (by omega)]; done) | (rw [if_neg (by omega), if_neg (by omega), if_pos (by omega)]; done) | (rw [if_neg (by omega), if_neg (by omega), if_neg (by omega)]; done)
 ·(try rw [h1]); replace h1 := zcl h1
  refine AWp_skip ?_
  refine AWp_seq ?_
  refine zw2 ?_
  refine AWp_cond rfl (fun h2 => ?_) (fun h2 => ?_)
  ·(try rw [h2]); replace h2 := zcl h2
   refine zu1 ?_
   refine zt rfl (op_quo64 rfl rfl rfl (by omega) (by omega) (by omega)) ?_
   refine zg3 ?_
   refine zt rfl (op_rem64 rfl rfl rfl (by omega) (by omega)) ?_
   refine zg2 ?_
   refine zt rfl (op_buildSlice [[_], [_]] rfl Tryd.underlying56 Tryd.sizeOf5 Tryd.zeroValue5 rfl (by decide) (by decide) rfl rfl rfl rfl rfl) ?_
   refine zt rfl (op_bytesStr (b := _) (m := 2) rfl Tryd.underlying56 Tryd.underlying5 Tryd.underlying9 (bs2 ⟨by omega, by omega⟩ ⟨by omega, by omega⟩) rfl rfl) ?_
   refine zv1 ?_
   refine zrt ?_
   refine ResQ_10 rfl hcl (by simp [AV.lt, AV.ltL]) (Ret_of ?_)
   congr 1; unfold rchar; first | (rw [if_pos (by omega)]; done) | (rw [if_neg (by omega), if_pos (by omega)]; done) | (rw [if_neg (by omega), if_neg (by omega), if_pos (by omega)]; done) | (rw [if_neg (by omega), if_neg (by omega), if_neg (by omega)]; done)
  ·(try rw [h2]); replace h2 := zcl h2
   refine AWp_skip ?_
   refine AWp_seq ?_
   refine zw2 ?_
   refine AWp_cond rfl (fun h3 => ?_) (fun h3 => ?_)
   ·(try rw [h3]); replace h3 := zcl h3
    refine zu1 ?_
    refine zt rfl (op_quo64 rfl rfl rfl (by omega) (by omega) (by omega)) ?_
    refine zg3 ?_
    refine zt rfl (op_quo64 rfl rfl rfl (by omega) (by omega) (by omega)) ?_
    refine zt rfl (op_rem64 rfl rfl rfl (by omega) (by omega)) ?_
    refine zg3 ?_
    refine zt rfl (op_rem64 rfl rfl rfl (by omega) (by omega)) ?_
    refine zg2 ?_
    refine zt rfl (op_buildSlice [[_], [_], [_]] rfl Tryd.underlying56 Tryd.sizeOf5 Tryd.zeroValue5 rfl (by decide) (by decide) rfl rfl rfl rfl rfl) ?_
    refine zt rfl (op_bytesStr (b := _) (m := 3) rfl Tryd.underlying56 Tryd.underlying5 Tryd.underlying9 (bs3 ⟨by omega, by omega⟩ ⟨by omega, by omega⟩ ⟨by omega, by omega⟩) rfl rfl) ?_
    refine zv1 ?_
    refine zrt ?_
    refine ResQ_10 rfl hcl (by simp [AV.lt, AV.ltL]) (Ret_of ?_)
    congr 1; unfold rchar; first | (rw [if_pos (by omega)]; done) | (rw [if_neg (by omega), if_pos (by omega)]; done) | (rw [if_neg (by omega), if_neg (by omega), if_pos (by omega)]; done) | (rw [if_neg (by omega), if_neg (by omega), if_neg (by omega)]; done)
   ·(try rw [h3]); replace h3 := zcl h3
    refine AWp_skip ?_
    refine zu1 ?_
    refine zt rfl (op_quo64 rfl rfl rfl (by omega) (by omega) (by omega)) ?_
    refine zg3 ?_
    refine zt rfl (op_quo64 rfl rfl rfl (by omega) (by omega) (by omega)) ?_
    refine zt rfl (op_rem64 rfl rfl rfl (by omega) (by omega)) ?_
    refine zg3 ?_
    refine zt rfl (op_quo64 rfl rfl rfl (by omega) (by omega) (by omega)) ?_
    refine zt rfl (op_rem64 rfl rfl rfl (by omega) (by omega)) ?_
    refine zg3 ?_
    refine zt rfl (op_rem64 rfl rfl rfl (by omega) (by omega)) ?_
    refine zg2 ?_
    refine zt rfl (op_buildSlice [[_], [_], [_], [_]] rfl Tryd.underlying56 Tryd.sizeOf5 Tryd.zeroValue5 rfl (by decide) (by decide) rfl rfl rfl rfl rfl) ?_
    refine zt rfl (op_bytesStr (b := _) (m := 4) rfl Tryd.underlying56 Tryd.underlying5 Tryd.underlying9 (bs4 ⟨by omega, by omega⟩ ⟨by omega, by omega⟩ ⟨by omega, by omega⟩ ⟨by omega, by omega⟩) rfl rfl) ?_
    refine zv1 ?_
    refine zrt ?_
    refine ResQ_10 rfl hcl (by simp [AV.lt, AV.ltL]) (Ret_of ?_)
    congr 1; unfold rchar; first | (rw [if_pos (by omega)]; done) | (rw [if_neg (by omega), if_pos (by omega)]; done) | (rw [if_neg (by omega), if_neg (by omega), if_pos (by omega)]; done) | (rw [if_neg (by omega), if_neg (by omega), if_neg (by omega)]; done)
end Lg
set_option maxRecDepth 20000
set_option maxHeartbeats 4000000
namespace Lg
open Go Go.Proofs Go.RowKit
variable [GLay] 
theorem utf8_c (s : ByteArray) (a : Int) (σ : List AO) (hs : s.size ≤ 140737488355328) (h0 : 0 ≤ a) (ha : a < s.size) : ACalls Tryd.prog 30 [.str s, .int .i64 a] σ (Ret (.int .i64 (u8 s a.toNat : Int)) σ) := by
 refine ACalls_body Tryd.func30 rfl Tryd.ntmps30 (res1 Tryd.results30) (Nat.le_of_ble_eq_true rfl) (fun hcl hal => ?_)
 have c0 := bat_lt s a.toNat
 have c1 := bat_lt s (a.toNat + 1)
 have c2 := bat_lt s (a.toNat + 2)
 have c3 := bat_lt s (a.toNat + 3)
 refine zw1 ?_
 refine zw5 ?_
 refine AWp_seq ?_
 refine zw2 ?_
 refine AWp_cond rfl (fun h1 => ?_) (fun h1 => ?_)
 ·(try rw [h1]); replace h1 := zcl h1
  refine zw1 ?_
  refine zrt ?_
  refine ResQ_10 rfl hcl trivial (Ret_of ?_)
  congr 1
  unfold u8
  first | rw [u8N_1 (by omega)] | rw [u8N_2 (by omega) (by omega)] | rw [u8N_3 (by omega) (by omega) rfl] | rw [u8N_4 (by omega) (by omega) rfl] | rw [u8N_0 (by omega) (by omega)]
  all_goals (try split) <;> omega
 ·(try rw [h1]); replace h1 := zcl h1
  refine AWp_skip ?_
  refine zw1 ?_
  refine zw1 ?_
  refine zw1 ?_
  refine AWp_seq ?_
  refine zu3 ?_
  refine zsp 19 rfl (fun h2 => ?_) fun h2 => ?_
  ·rw [h2]; replace h2 := zcl h2
   refine zv3 ?_
   refine AWp_cond rfl (fun h3 => ?_) (fun h3 => ?_)
   ·(try rw [h3]); replace h3 := zcl h3
    refine zw1 ?_
    refine zw1 ?_
    refine AWp_regL ?_
    refine zv3 ?_
    refine AWp_seq ?_
    refine zw6 ?_
    refine AWp_cond rfl (fun h4 => ?_) (fun h4 => ?_)
    ·(try rw [h4]); replace h4 := zcl h4
     refine zw1 ?_
     refine zrt ?_
     refine ResQ_10 rfl hcl trivial (Ret_of ?_)
     congr 1
     unfold u8
     first | rw [u8N_1 (by omega)] | rw [u8N_2 (by omega) (by omega)] | rw [u8N_3 (by omega) (by omega) rfl] | rw [u8N_4 (by omega) (by omega) rfl] | rw [u8N_0 (by omega) (by omega)]
     all_goals (try split) <;> omega
    ·(try rw [h4]); replace h4 := zcl h4
     refine AWp_skip ?_
     refine AWp_seq ?_
     refine zw1 ?_
     refine AWp_block ?_
     -- loop 0 LIVE 0:param 1:param 4:assign 6:assign 7:assign 8:assign 9:assign
     refine AWp_loop (ι := Nat × Int) (fun p => (p.1 = 1 ∧ p.2 = ((bat s a.toNat).toNat : Int) - 192) ∨ (p.1 = 2 ∧ 128 ≤ ((bat s (a.toNat + 1)).toNat : Int) ∧ ((bat s (a.toNat + 1)).toNat : Int) < 192 ∧ p.2 = (64 * (((bat s a.toNat).toNat : Int) - 192) + (((bat s (a.toNat + 1)).toNat : Int) - 128)))) (fun p => ⟨[], [(0, .str s), (1, .int .i64 a), (6, .int .i64 2), (7, .int .i64 128), (8, .int .i64 p.2), (9, .int .i64 (p.1 : Int))]⟩) (fun p => σ) (fun p => 2 - p.1) ((1, ((bat s a.toNat).toNat : Int) - 192)) (.inl ⟨rfl, rfl⟩) ?_ rfl (fun p hp => ?_)
     ·exact ⟨rfl, rfl, rfl, rfl, rfl, rfl, rfl, trivial⟩
     obtain ⟨i, v⟩ := p
     simp only at hp ⊢
     have ci := bat_lt s (a + (i : Int)).toNat
     have k1 : i = 1 → (bat s (a + (i : Int)).toNat).toNat = (bat s (a.toNat + 1)).toNat := fun h => by rw [h]; congr 2; omega
     have k2 : i = 2 → (bat s (a + (i : Int)).toNat).toNat = (bat s (a.toNat + 2)).toNat := fun h => by rw [h]; congr 2; omega
     have k3 : i = 3 → (bat s (a + (i : Int)).toNat).toNat = (bat s (a.toNat + 3)).toNat := fun h => by rw [h]; congr 2; omega
     refine AWp_seq ?_
     refine zw3 ?_
     refine AWp_cond rfl (fun h5 => ?_) (fun h5 => ?_)
     ·(try rw [h5]); replace h5 := zcl h5
      refine AWp_skip ?_
      refine AWp_seq ?_
      refine AWp_block ?_
      refine zw7 ?_
      refine AWp_seq ?_
      refine zu3 ?_
      refine zsp 60 rfl (fun h6 => ?_) fun h6 => ?_
      ·rw [h6]; replace h6 := zcl h6
       refine zv3 ?_
       refine AWp_condT rfl ?_
       refine zw1 ?_
       refine zrt ?_
       refine ResQ_10 rfl hcl trivial (Ret_of ?_)
       congr 1
       unfold u8
       first | rw [u8N_1 (by omega)] | rw [u8N_2 (by omega) (by omega)] | rw [u8N_3 (by omega) (by omega) rfl] | rw [u8N_4 (by omega) (by omega) rfl] | rw [u8N_0 (by omega) (by omega)]
       all_goals (try split) <;> omega
      ·rw [h6]; replace h6 := zcl h6
       refine zv3 ?_
       refine AWp_cond rfl (fun h7 => ?_) (fun h7 => ?_)
       ·(try rw [h7]); replace h7 := zcl h7
        refine zw1 ?_
        refine zrt ?_
        refine ResQ_10 rfl hcl trivial (Ret_of ?_)
        congr 1
        unfold u8
        first | rw [u8N_1 (by omega)] | rw [u8N_2 (by omega) (by omega)] | rw [u8N_3 (by omega) (by omega) rfl] | rw [u8N_4 (by omega) (by omega) rfl] | rw [u8N_0 (by omega) (by omega)]
        all_goals (try split) <;> omega
       ·(try rw [h7]); replace h7 := zcl h7
        refine AWp_skip ?_
        refine AWp_regL ?_
        refine zv6 ?_
        refine AWp_regL ?_
        refine zv3 ?_
        refine ⟨(i + 1, _), σ.length, ?_, ?_, Nat.le_refl _, ⟨rfl, rfl, rfl, rfl, rfl, rfl, rfl, trivial⟩, hcl, ?_, List.take_length⟩
        ·simp only; omega
        ·simp only; omega
        ·simp [ltE, AV.lt]
     ·(try rw [h5]); replace h5 := zcl h5
      refine AWp_exit ?_
      refine AWp_seq ?_
      refine zu4 ?_
      refine zsp 72 rfl (fun h8 => ?_) fun h8 => ?_
      ·rw [h8]; replace h8 := zcl h8
       refine zg10 ?_
       refine zg1 ?_
       refine zon ?_
       refine AWp_condT rfl ?_
       refine zw1 ?_
       refine zrt ?_
       refine ResQ_10 rfl hcl trivial (Ret_of ?_)
       congr 1
       unfold u8
       first | rw [u8N_1 (by omega)] | rw [u8N_2 (by omega) (by omega)] | rw [u8N_3 (by omega) (by omega) rfl] | rw [u8N_4 (by omega) (by omega) rfl] | rw [u8N_0 (by omega) (by omega)]
       all_goals (try split) <;> omega
      ·rw [h8]; replace h8 := zcl h8
       refine zg4 ?_
       refine zsp 76 rfl (fun h9 => ?_) fun h9 => ?_
       ·rw [h9]; replace h9 := zcl h9
        refine zv7 ?_
        refine AWp_condT rfl ?_
        refine zw1 ?_
        refine zrt ?_
        refine ResQ_10 rfl hcl trivial (Ret_of ?_)
        congr 1
        unfold u8
        first | rw [u8N_1 (by omega)] | rw [u8N_2 (by omega) (by omega)] | rw [u8N_3 (by omega) (by omega) rfl] | rw [u8N_4 (by omega) (by omega) rfl] | rw [u8N_0 (by omega) (by omega)]
        all_goals (try split) <;> omega
       ·rw [h9]; replace h9 := zcl h9
        refine zg3 ?_
        refine zsp 79 rfl (fun h10 => ?_) fun h10 => ?_
        ·rw [h10]; replace h10 := zcl h10
         refine zv4 ?_
         refine AWp_cond rfl (fun h11 => ?_) (fun h11 => ?_)
         ·(try rw [h11]); replace h11 := zcl h11
          refine zw1 ?_
          refine zrt ?_
          refine ResQ_10 rfl hcl trivial (Ret_of ?_)
          congr 1
          unfold u8
          first | rw [u8N_1 (by omega)] | rw [u8N_2 (by omega) (by omega)] | rw [u8N_3 (by omega) (by omega) rfl] | rw [u8N_4 (by omega) (by omega) rfl] | rw [u8N_0 (by omega) (by omega)]
          all_goals (try split) <;> omega
         ·(try rw [h11]); replace h11 := zcl h11
          refine AWp_skip ?_
          refine zw2 ?_
          refine zrt ?_
          refine ResQ_10 rfl hcl trivial (Ret_of ?_)
          congr 1
          unfold u8
          first | rw [u8N_1 (by omega)] | rw [u8N_2 (by omega) (by omega)] | rw [u8N_3 (by omega) (by omega) rfl] | rw [u8N_4 (by omega) (by omega) rfl] | rw [u8N_0 (by omega) (by omega)]
          all_goals (try split) <;> omega
        ·rw [h10]; replace h10 := zcl h10
         refine zv4 ?_
         refine AWp_condF rfl ?_
         refine AWp_skip ?_
         refine zw2 ?_
         refine zrt ?_
         refine ResQ_10 rfl hcl trivial (Ret_of ?_)
         congr 1
         unfold u8
         first | rw [u8N_1 (by omega)] | rw [u8N_2 (by omega) (by omega)] | rw [u8N_3 (by omega) (by omega) rfl] | rw [u8N_4 (by omega) (by omega) rfl] | rw [u8N_0 (by omega) (by omega)]
         all_goals (try split) <;> omega
   ·(try rw [h3]); replace h3 := zcl h3
    refine zu3 ?_
    refine zsp 27 rfl (fun h12 => ?_) fun h12 => ?_
    ·rw [h12]; replace h12 := zcl h12
     refine zv3 ?_
     refine AWp_cond rfl (fun h13 => ?_) (fun h13 => ?_)
     ·(try rw [h13]); replace h13 := zcl h13
      refine zw1 ?_
      refine zw1 ?_
      refine AWp_regL ?_
      refine zv3 ?_
      refine AWp_seq ?_
      refine zw6 ?_
      refine AWp_cond rfl (fun h14 => ?_) (fun h14 => ?_)
      ·(try rw [h14]); replace h14 := zcl h14
       refine zw1 ?_
       refine zrt ?_
       refine ResQ_10 rfl hcl trivial (Ret_of ?_)
       congr 1
       unfold u8
       first | rw [u8N_1 (by omega)] | rw [u8N_2 (by omega) (by omega)] | rw [u8N_3 (by omega) (by omega) rfl] | rw [u8N_4 (by omega) (by omega) rfl] | rw [u8N_0 (by omega) (by omega)]
       all_goals (try split) <;> omega
      ·(try rw [h14]); replace h14 := zcl h14
       refine AWp_skip ?_
       refine AWp_seq ?_
       refine zw1 ?_
       refine AWp_block ?_
       -- loop 1 LIVE 0:param 1:param 4:assign 6:assign 7:assign 8:assign 9:assign
       refine AWp_loop (ι := Nat × Int) (fun p => (p.1 = 1 ∧ p.2 = ((bat s a.toNat).toNat : Int) - 224) ∨ (p.1 = 2 ∧ 128 ≤ ((bat s (a.toNat + 1)).toNat : Int) ∧ ((bat s (a.toNat + 1)).toNat : Int) < 192 ∧ p.2 = (64 * (((bat s a.toNat).toNat : Int) - 224) + (((bat s (a.toNat + 1)).toNat : Int) - 128))) ∨ (p.1 = 3 ∧ 128 ≤ ((bat s (a.toNat + 1)).toNat : Int) ∧ ((bat s (a.toNat + 1)).toNat : Int) < 192 ∧ 128 ≤ ((bat s (a.toNat + 2)).toNat : Int) ∧ ((bat s (a.toNat + 2)).toNat : Int) < 192 ∧ p.2 = (64 * (64 * (((bat s a.toNat).toNat : Int) - 224) + (((bat s (a.toNat + 1)).toNat : Int) - 128)) + (((bat s (a.toNat + 2)).toNat : Int) - 128)))) (fun p => ⟨[], [(0, .str s), (1, .int .i64 a), (6, .int .i64 3), (7, .int .i64 2048), (8, .int .i64 p.2), (9, .int .i64 (p.1 : Int))]⟩) (fun p => σ) (fun p => 3 - p.1) ((1, ((bat s a.toNat).toNat : Int) - 224)) (.inl ⟨rfl, rfl⟩) ?_ rfl (fun p hp => ?_)
       ·exact ⟨rfl, rfl, rfl, rfl, rfl, rfl, rfl, trivial⟩
       obtain ⟨i, v⟩ := p
       simp only at hp ⊢
       have ci := bat_lt s (a + (i : Int)).toNat
       have k1 : i = 1 → (bat s (a + (i : Int)).toNat).toNat = (bat s (a.toNat + 1)).toNat := fun h => by rw [h]; congr 2; omega
       have k2 : i = 2 → (bat s (a + (i : Int)).toNat).toNat = (bat s (a.toNat + 2)).toNat := fun h => by rw [h]; congr 2; omega
       have k3 : i = 3 → (bat s (a + (i : Int)).toNat).toNat = (bat s (a.toNat + 3)).toNat := fun h => by rw [h]; congr 2; omega
       refine AWp_seq ?_
       refine zw3 ?_
       refine AWp_cond rfl (fun h15 => ?_) (fun h15 => ?_)
       ·(try rw [h15]); replace h15 := zcl h15
        refine AWp_skip ?_
        refine AWp_seq ?_
        refine AWp_block ?_
        refine zw7 ?_
        refine AWp_seq ?_
        refine zu3 ?_
        refine zsp 60 rfl (fun h16 => ?_) fun h16 => ?_
        ·rw [h16]; replace h16 := zcl h16
         refine zv3 ?_
         refine AWp_condT rfl ?_
         refine zw1 ?_
         refine zrt ?_
         refine ResQ_10 rfl hcl trivial (Ret_of ?_)
         congr 1
         unfold u8
         first | rw [u8N_1 (by omega)] | rw [u8N_2 (by omega) (by omega)] | rw [u8N_3 (by omega) (by omega) rfl] | rw [u8N_4 (by omega) (by omega) rfl] | rw [u8N_0 (by omega) (by omega)]
         all_goals (try split) <;> omega
        ·rw [h16]; replace h16 := zcl h16
         refine zv3 ?_
         refine AWp_cond rfl (fun h17 => ?_) (fun h17 => ?_)
         ·(try rw [h17]); replace h17 := zcl h17
          refine zw1 ?_
          refine zrt ?_
          refine ResQ_10 rfl hcl trivial (Ret_of ?_)
          congr 1
          unfold u8
          first | rw [u8N_1 (by omega)] | rw [u8N_2 (by omega) (by omega)] | rw [u8N_3 (by omega) (by omega) rfl] | rw [u8N_4 (by omega) (by omega) rfl] | rw [u8N_0 (by omega) (by omega)]
          all_goals (try split) <;> omega
         ·(try rw [h17]); replace h17 := zcl h17
          refine AWp_skip ?_
          refine AWp_regL ?_
          refine zv6 ?_
          refine AWp_regL ?_
          refine zv3 ?_
          refine ⟨(i + 1, _), σ.length, ?_, ?_, Nat.le_refl _, ⟨rfl, rfl, rfl, rfl, rfl, rfl, rfl, trivial⟩, hcl, ?_, List.take_length⟩
          ·simp only; omega
          ·simp only; omega
          ·simp [ltE, AV.lt]
       ·(try rw [h15]); replace h15 := zcl h15
        refine AWp_exit ?_
        refine AWp_seq ?_
        refine zu4 ?_
        refine zsp 72 rfl (fun h18 => ?_) fun h18 => ?_
        ·rw [h18]; replace h18 := zcl h18
         refine zg10 ?_
         refine zg1 ?_
         refine zon ?_
         refine AWp_condT rfl ?_
         refine zw1 ?_
         refine zrt ?_
         refine ResQ_10 rfl hcl trivial (Ret_of ?_)
         congr 1
         unfold u8
         first | rw [u8N_1 (by omega)] | rw [u8N_2 (by omega) (by omega)] | rw [u8N_3 (by omega) (by omega) rfl] | rw [u8N_4 (by omega) (by omega) rfl] | rw [u8N_0 (by omega) (by omega)]
         all_goals (try split) <;> omega
        ·rw [h18]; replace h18 := zcl h18
         refine zg4 ?_
         refine zsp 76 rfl (fun h19 => ?_) fun h19 => ?_
         ·rw [h19]; replace h19 := zcl h19
          refine zv7 ?_
          refine AWp_condT rfl ?_
          refine zw1 ?_
          refine zrt ?_
          refine ResQ_10 rfl hcl trivial (Ret_of ?_)
          congr 1
          unfold u8
          first | rw [u8N_1 (by omega)] | rw [u8N_2 (by omega) (by omega)] | rw [u8N_3 (by omega) (by omega) rfl] | rw [u8N_4 (by omega) (by omega) rfl] | rw [u8N_0 (by omega) (by omega)]
          all_goals (try split) <;> omega
         ·rw [h19]; replace h19 := zcl h19
          refine zg3 ?_
          refine zsp 79 rfl (fun h20 => ?_) fun h20 => ?_
          ·rw [h20]; replace h20 := zcl h20
           refine zv4 ?_
           refine AWp_cond rfl (fun h21 => ?_) (fun h21 => ?_)
           ·(try rw [h21]); replace h21 := zcl h21
            refine zw1 ?_
            refine zrt ?_
            refine ResQ_10 rfl hcl trivial (Ret_of ?_)
            congr 1
            unfold u8
            first | rw [u8N_1 (by omega)] | rw [u8N_2 (by omega) (by omega)] | rw [u8N_3 (by omega) (by omega) rfl] | rw [u8N_4 (by omega) (by omega) rfl] | rw [u8N_0 (by omega) (by omega)]
            all_goals (try split) <;> omega
           ·(try rw [h21]); replace h21 := zcl h21
            refine AWp_skip ?_
            refine zw2 ?_
            refine zrt ?_
            refine ResQ_10 rfl hcl trivial (Ret_of ?_)
            congr 1
            unfold u8
            first | rw [u8N_1 (by omega)] | rw [u8N_2 (by omega) (by omega)] | rw [u8N_3 (by omega) (by omega) rfl] | rw [u8N_4 (by omega) (by omega) rfl] | rw [u8N_0 (by omega) (by omega)]
            all_goals (try split) <;> omega
          ·rw [h20]; replace h20 := zcl h20
           refine zv4 ?_
           refine AWp_condF rfl ?_
           refine AWp_skip ?_
           refine zw2 ?_
           refine zrt ?_
           refine ResQ_10 rfl hcl trivial (Ret_of ?_)
           congr 1
           unfold u8
           first | rw [u8N_1 (by omega)] | rw [u8N_2 (by omega) (by omega)] | rw [u8N_3 (by omega) (by omega) rfl] | rw [u8N_4 (by omega) (by omega) rfl] | rw [u8N_0 (by omega) (by omega)]
           all_goals (try split) <;> omega
     ·(try rw [h13]); replace h13 := zcl h13
      refine zu3 ?_
      refine zsp 35 rfl (fun h22 => ?_) fun h22 => ?_
      ·rw [h22]; replace h22 := zcl h22
       refine zv3 ?_
       refine AWp_cond rfl (fun h23 => ?_) (fun h23 => ?_)
       ·(try rw [h23]); replace h23 := zcl h23
        refine zw1 ?_
        refine zw1 ?_
        refine AWp_regL ?_
        refine zv3 ?_
        refine AWp_seq ?_
        refine zw6 ?_
        refine AWp_cond rfl (fun h24 => ?_) (fun h24 => ?_)
        ·(try rw [h24]); replace h24 := zcl h24
         refine zw1 ?_
         refine zrt ?_
         refine ResQ_10 rfl hcl trivial (Ret_of ?_)
         congr 1
         unfold u8
         first | rw [u8N_1 (by omega)] | rw [u8N_2 (by omega) (by omega)] | rw [u8N_3 (by omega) (by omega) rfl] | rw [u8N_4 (by omega) (by omega) rfl] | rw [u8N_0 (by omega) (by omega)]
         all_goals (try split) <;> omega
        ·(try rw [h24]); replace h24 := zcl h24
         refine AWp_skip ?_
         refine AWp_seq ?_
         refine zw1 ?_
         refine AWp_block ?_
         -- loop 2 LIVE 0:param 1:param 4:assign 6:assign 7:assign 8:assign 9:assign
         refine AWp_loop (ι := Nat × Int) (fun p => (p.1 = 1 ∧ p.2 = ((bat s a.toNat).toNat : Int) - 240) ∨ (p.1 = 2 ∧ 128 ≤ ((bat s (a.toNat + 1)).toNat : Int) ∧ ((bat s (a.toNat + 1)).toNat : Int) < 192 ∧ p.2 = (64 * (((bat s a.toNat).toNat : Int) - 240) + (((bat s (a.toNat + 1)).toNat : Int) - 128))) ∨ (p.1 = 3 ∧ 128 ≤ ((bat s (a.toNat + 1)).toNat : Int) ∧ ((bat s (a.toNat + 1)).toNat : Int) < 192 ∧ 128 ≤ ((bat s (a.toNat + 2)).toNat : Int) ∧ ((bat s (a.toNat + 2)).toNat : Int) < 192 ∧ p.2 = (64 * (64 * (((bat s a.toNat).toNat : Int) - 240) + (((bat s (a.toNat + 1)).toNat : Int) - 128)) + (((bat s (a.toNat + 2)).toNat : Int) - 128))) ∨ (p.1 = 4 ∧ 128 ≤ ((bat s (a.toNat + 1)).toNat : Int) ∧ ((bat s (a.toNat + 1)).toNat : Int) < 192 ∧ 128 ≤ ((bat s (a.toNat + 2)).toNat : Int) ∧ ((bat s (a.toNat + 2)).toNat : Int) < 192 ∧ 128 ≤ ((bat s (a.toNat + 3)).toNat : Int) ∧ ((bat s (a.toNat + 3)).toNat : Int) < 192 ∧ p.2 = (64 * (64 * (64 * (((bat s a.toNat).toNat : Int) - 240) + (((bat s (a.toNat + 1)).toNat : Int) - 128)) + (((bat s (a.toNat + 2)).toNat : Int) - 128)) + (((bat s (a.toNat + 3)).toNat : Int) - 128)))) (fun p => ⟨[], [(0, .str s), (1, .int .i64 a), (6, .int .i64 4), (7, .int .i64 65536), (8, .int .i64 p.2), (9, .int .i64 (p.1 : Int))]⟩) (fun p => σ) (fun p => 4 - p.1) ((1, ((bat s a.toNat).toNat : Int) - 240)) (.inl ⟨rfl, rfl⟩) ?_ rfl (fun p hp => ?_)
         ·exact ⟨rfl, rfl, rfl, rfl, rfl, rfl, rfl, trivial⟩
         obtain ⟨i, v⟩ := p
         simp only at hp ⊢
         have ci := bat_lt s (a + (i : Int)).toNat
         have k1 : i = 1 → (bat s (a + (i : Int)).toNat).toNat = (bat s (a.toNat + 1)).toNat := fun h => by rw [h]; congr 2; omega
         have k2 : i = 2 → (bat s (a + (i : Int)).toNat).toNat = (bat s (a.toNat + 2)).toNat := fun h => by rw [h]; congr 2; omega
         have k3 : i = 3 → (bat s (a + (i : Int)).toNat).toNat = (bat s (a.toNat + 3)).toNat := fun h => by rw [h]; congr 2; omega
         refine AWp_seq ?_
         refine zw3 ?_
         refine AWp_cond rfl (fun h25 => ?_) (fun h25 => ?_)
         ·(try rw [h25]); replace h25 := zcl h25
          refine AWp_skip ?_
          refine AWp_seq ?_
          refine AWp_block ?_
          refine zw7 ?_
          refine AWp_seq ?_
          refine zu3 ?_
          refine zsp 60 rfl (fun h26 => ?_) fun h26 => ?_
          ·rw [h26]; replace h26 := zcl h26
           refine zv3 ?_
           refine AWp_condT rfl ?_
           refine zw1 ?_
           refine zrt ?_
           refine ResQ_10 rfl hcl trivial (Ret_of ?_)
           congr 1
           unfold u8
           first | rw [u8N_1 (by omega)] | rw [u8N_2 (by omega) (by omega)] | rw [u8N_3 (by omega) (by omega) rfl] | rw [u8N_4 (by omega) (by omega) rfl] | rw [u8N_0 (by omega) (by omega)]
           all_goals (try split) <;> omega
          ·rw [h26]; replace h26 := zcl h26
           refine zv3 ?_
           refine AWp_cond rfl (fun h27 => ?_) (fun h27 => ?_)
           ·(try rw [h27]); replace h27 := zcl h27
            refine zw1 ?_
            refine zrt ?_
            refine ResQ_10 rfl hcl trivial (Ret_of ?_)
            congr 1
            unfold u8
            first | rw [u8N_1 (by omega)] | rw [u8N_2 (by omega) (by omega)] | rw [u8N_3 (by omega) (by omega) rfl] | rw [u8N_4 (by omega) (by omega) rfl] | rw [u8N_0 (by omega) (by omega)]
            all_goals (try split) <;> omega
           ·(try rw [h27]); replace h27 := zcl h27
            refine AWp_skip ?_
            refine AWp_regL ?_
            refine zv6 ?_
            refine AWp_regL ?_
            refine zv3 ?_
            refine ⟨(i + 1, _), σ.length, ?_, ?_, Nat.le_refl _, ⟨rfl, rfl, rfl, rfl, rfl, rfl, rfl, trivial⟩, hcl, ?_, List.take_length⟩
            ·simp only; omega
            ·simp only; omega
            ·simp [ltE, AV.lt]
         ·(try rw [h25]); replace h25 := zcl h25
          refine AWp_exit ?_
          refine AWp_seq ?_
          refine zu4 ?_
          refine zsp 72 rfl (fun h28 => ?_) fun h28 => ?_
          ·rw [h28]; replace h28 := zcl h28
           refine zg10 ?_
           refine zg1 ?_
           refine zon ?_
           refine AWp_condT rfl ?_
           refine zw1 ?_
           refine zrt ?_
           refine ResQ_10 rfl hcl trivial (Ret_of ?_)
           congr 1
           unfold u8
           first | rw [u8N_1 (by omega)] | rw [u8N_2 (by omega) (by omega)] | rw [u8N_3 (by omega) (by omega) rfl] | rw [u8N_4 (by omega) (by omega) rfl] | rw [u8N_0 (by omega) (by omega)]
           all_goals (try split) <;> omega
          ·rw [h28]; replace h28 := zcl h28
           refine zg4 ?_
           refine zsp 76 rfl (fun h29 => ?_) fun h29 => ?_
           ·rw [h29]; replace h29 := zcl h29
            refine zv7 ?_
            refine AWp_condT rfl ?_
            refine zw1 ?_
            refine zrt ?_
            refine ResQ_10 rfl hcl trivial (Ret_of ?_)
            congr 1
            unfold u8
            first | rw [u8N_1 (by omega)] | rw [u8N_2 (by omega) (by omega)] | rw [u8N_3 (by omega) (by omega) rfl] | rw [u8N_4 (by omega) (by omega) rfl] | rw [u8N_0 (by omega) (by omega)]
            all_goals (try split) <;> omega
           ·rw [h29]; replace h29 := zcl h29
            refine zg3 ?_
            refine zsp 79 rfl (fun h30 => ?_) fun h30 => ?_
            ·rw [h30]; replace h30 := zcl h30
             refine zv4 ?_
             refine AWp_cond rfl (fun h31 => ?_) (fun h31 => ?_)
             ·(try rw [h31]); replace h31 := zcl h31
              refine zw1 ?_
              refine zrt ?_
              refine ResQ_10 rfl hcl trivial (Ret_of ?_)
              congr 1
              unfold u8
              first | rw [u8N_1 (by omega)] | rw [u8N_2 (by omega) (by omega)] | rw [u8N_3 (by omega) (by omega) rfl] | rw [u8N_4 (by omega) (by omega) rfl] | rw [u8N_0 (by omega) (by omega)]
              all_goals (try split) <;> omega
             ·(try rw [h31]); replace h31 := zcl h31
              refine AWp_skip ?_
              refine zw2 ?_
              refine zrt ?_
              refine ResQ_10 rfl hcl trivial (Ret_of ?_)
              congr 1
              unfold u8
              first | rw [u8N_1 (by omega)] | rw [u8N_2 (by omega) (by omega)] | rw [u8N_3 (by omega) (by omega) rfl] | rw [u8N_4 (by omega) (by omega) rfl] | rw [u8N_0 (by omega) (by omega)]
              all_goals (try split) <;> omega
            ·rw [h30]; replace h30 := zcl h30
             refine zv4 ?_
             refine AWp_condF rfl ?_
             refine AWp_skip ?_
             refine zw2 ?_
             refine zrt ?_
             refine ResQ_10 rfl hcl trivial (Ret_of ?_)
             congr 1
             unfold u8
             first | rw [u8N_1 (by omega)] | rw [u8N_2 (by omega) (by omega)] | rw [u8N_3 (by omega) (by omega) rfl] | rw [u8N_4 (by omega) (by omega) rfl] | rw [u8N_0 (by omega) (by omega)]
             all_goals (try split) <;> omega
       ·(try rw [h23]); replace h23 := zcl h23
        refine zw1 ?_
        refine zrt ?_
        refine ResQ_10 rfl hcl trivial (Ret_of ?_)
        congr 1
        unfold u8
        first | rw [u8N_1 (by omega)] | rw [u8N_2 (by omega) (by omega)] | rw [u8N_3 (by omega) (by omega) rfl] | rw [u8N_4 (by omega) (by omega) rfl] | rw [u8N_0 (by omega) (by omega)]
        all_goals (try split) <;> omega
      ·rw [h22]; replace h22 := zcl h22
       exfalso; omega
    ·rw [h12]; replace h12 := zcl h12
     exfalso; omega
  ·rw [h2]; replace h2 := zcl h2
   refine zv3 ?_
   refine AWp_condF rfl ?_
   refine zu3 ?_
   refine zsp 27 rfl (fun h32 => ?_) fun h32 => ?_
   ·rw [h32]; replace h32 := zcl h32
    exfalso; omega
   ·rw [h32]; replace h32 := zcl h32
    refine zv3 ?_
    refine AWp_condF rfl ?_
    refine zu3 ?_
    refine zsp 35 rfl (fun h33 => ?_) fun h33 => ?_
    ·rw [h33]; replace h33 := zcl h33
     exfalso; omega
    ·rw [h33]; replace h33 := zcl h33
     refine zv3 ?_
     refine AWp_condF rfl ?_
     refine zw1 ?_
     refine zrt ?_
     refine ResQ_10 rfl hcl trivial (Ret_of ?_)
     congr 1
     unfold u8
     first | rw [u8N_1 (by omega)] | rw [u8N_2 (by omega) (by omega)] | rw [u8N_3 (by omega) (by omega) rfl] | rw [u8N_4 (by omega) (by omega) rfl] | rw [u8N_0 (by omega) (by omega)]
     all_goals (try split) <;> omega

theorem text_c (s : ByteArray) (σ : List AO) (hs : s.size ≤ 140737488355328) : ACalls Tryd.prog 9 [.str s] σ (Ret (.bool (pb (Utf s))) σ) := by
 refine ACalls_body Tryd.func9 rfl Tryd.ntmps9 (res1 Tryd.results9) (Nat.le_of_ble_eq_true rfl) (fun hcl hal => ?_)
 have hU : utfFrom s 0 = Go.Lib.validD s.data.toList := rfl
 refine zw1 ?_
 refine AWp_seq ?_
 refine zw1 ?_
 refine AWp_block ?_
 -- loop 0 LIVE 0:param 2:assign 3:assign
 refine AWp_loop (ι := Nat) (fun i => i ≤ s.size ∧ utfFrom s i = utfFrom s 0) (fun i => ⟨[], [(0, .str s), (3, .int .i64 (i : Int))]⟩) (fun i => σ) (fun i => s.size - i) (0) (⟨Nat.zero_le _, rfl⟩) ?_ rfl (fun i hi => ?_)
 ·exact ⟨rfl, rfl, rfl, trivial⟩
 obtain ⟨hi1, hi2⟩ := hi
 refine AWp_seq ?_
 refine zw4 ?_
 refine AWp_cond rfl (fun h1 => ?_) (fun h1 => ?_)
 ·(try rw [h1]); replace h1 := zcl h1
  have hst := utfFrom_step (s := s) (a := i) (by omega)
  have hle := u8_le (s := s) (a := i) (by omega)
  refine AWp_skip ?_
  refine AWp_block ?_
  refine zu2 ?_
  refine zt rfl (zc rfl (utf8_c s _ _ (by omega) (by omega) (by omega))) ?_
  simp only [Int.toNat_natCast]
  refine zv1 ?_
  refine AWp_seq ?_
  refine zw2 ?_
  refine AWp_cond rfl (fun h2 => ?_) (fun h2 => ?_)
  ·(try rw [h2]); replace h2 := zcl h2
   refine zw1 ?_
   refine zrt ?_
   refine ResQ_10 rfl hcl trivial (Ret_of (bool_f ?_))
   rw [if_pos (by omega)] at hst
   unfold Utf; rw [← hU, ← hi2, hst]; decide
  ·(try rw [h2]); replace h2 := zcl h2
   refine AWp_skip ?_
   refine AWp_regL ?_
   refine zv4 ?_
   have hn : u8 s i ≠ 0 := by omega
   rw [if_neg hn] at hst
   refine ⟨i + u8 s i, σ.length, ⟨u8_le (by omega), by rw [← hi2, hst]⟩, by omega, Nat.le_refl _, ⟨rfl, rfl, ?_, trivial⟩, hcl, ?_, List.take_length⟩
   ·rw [Int.natCast_add]; rfl
   ·simp [ltE, AV.lt]
 ·(try rw [h1]); replace h1 := zcl h1
  have hend := utfFrom_end (s := s) (a := i) (by omega)
  refine AWp_exit ?_
  refine zw1 ?_
  refine zrt ?_
  exact ResQ_10 rfl hcl trivial (Ret_of (bool_t (by unfold Utf; rw [← hU, ← hi2, hend])))
end Lg
