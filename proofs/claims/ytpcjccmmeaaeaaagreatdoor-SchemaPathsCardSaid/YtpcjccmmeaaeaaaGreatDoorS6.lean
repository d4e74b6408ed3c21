/- A part of the proof of Whatever text is handed in: the nodes that the program compiles of its value as a schema are the document's, and what is amiss is told with the document's number and pointer.: Lc8 Lc12 E1 X4 K1 K2 K3 K4 K5 S1 K6 K8. -/
import Derived.Test.YtpcjccmmeaaeaaaGreatDoorS5
import Derived.Test.YtpcjccmmeaaeaaaGreatDoorS4
set_option linter.unusedVariables false
set_option linter.unusedSimpArgs false
set_option linter.unusedSectionVars false
namespace Lg
open Go
section
variable [GLay]
theorem flat_set {sz : Nat} {A B : List (List AV)} {r : List AV} (hA : ∀ x ∈ A, x.length = sz) {j : Nat} (hj : j < r.length) (v : AV) : (A ++ r :: B).flatten.set (A.length * sz + j) v = (A ++ r.set j v :: B).flatten := by
  have hl : A.flatten.length = A.length * sz := flatten_len hA
  rw [List.flatten_append, List.flatten_append, List.set_append_right _ _ (by omega), hl, Nat.add_sub_cancel_left, List.flatten_cons, List.flatten_cons, List.set_append_left _ _ hj]
theorem flat_get {sz : Nat} {A B : List (List AV)} {r : List AV} (hA : ∀ x ∈ A, x.length = sz) {j : Nat} {v : AV} (hv : r[j]? = some v) : (A ++ r :: B).flatten[A.length * sz + j]? = some v := by
  have hl : A.flatten.length = A.length * sz := flatten_len hA
  have hj := (List.getElem?_eq_some_iff.1 hv).1
  rw [List.flatten_append, List.getElem?_append_right (by omega), hl, Nat.add_sub_cancel_left, List.flatten_cons, List.getElem?_append_left hj, hv]
def hd3 (n : JNode) : ByteArray × Bool × Bool := (n.path, n.all, n.pass)
end
end Lg
namespace Lg
open Go
abbrev PF := ByteArray → JV → Nat → List JNode × Int × ByteArray
def pkids (f : PF) (under : ByteArray) (sg : Bool) (N : Nat) : List BJ → List JKid → List JNode → List JKid × List JNode × Int × ByteArray
  | [], kd, ex => (kd, ex, 0, e0)
  | (k, x) :: r, kd, ex =>
    if ¬ (f (if sg = true then under else under ++ pth k) x (N + ex.length)).2.1 = 0 then (kd ++ [⟨k, ((N + ex.length : Nat) : Int)⟩], ex ++ (f (if sg = true then under else under ++ pth k) x (N + ex.length)).1, (f (if sg = true then under else under ++ pth k) x (N + ex.length)).2)
    else pkids f under sg N r (kd ++ [⟨k, ((N + ex.length : Nat) : Int)⟩]) (ex ++ (f (if sg = true then under else under ++ pth k) x (N + ex.length)).1)
noncomputable def pkey (f : PF) (path nm : ByteArray) (x : JV) (N : Nat) : List JKid × List JNode × Int × ByteArray :=
  if ¬ rShape nm x = 0 then ([], [], rShape nm x, path ++ pth nm) else pkids f (path ++ pth nm) (decide (rk nm = 8)) N (kidsM nm x) [] []
noncomputable def pmems (f : PF) (path : ByteArray) (N : Nat) : List BJ → List JKey → List JNode → List JKey × List JNode × Int × ByteArray
  | [], ks, ex => (ks, ex, 0, e0)
  | (nm, x) :: r, ks, ex =>
    if ¬ (pkey f path nm x (N + ex.length)).2.2.1 = 0 then (ks, ex ++ (pkey f path nm x (N + ex.length)).2.1, (pkey f path nm x (N + ex.length)).2.2)
    else pmems f path N r (ks ++ [⟨nm, x, (pkey f path nm x (N + ex.length)).1⟩]) (ex ++ (pkey f path nm x (N + ex.length)).2.1)
noncomputable def pnd : Nat → PF
  | 0, _, _, _ => ([], 0, e0)
  | n + 1, path, v, N => if N = 200 then ([], 5, path) else
    (⟨path, decide (v.kind = 1), decide (v.kind = 1) && v.b, (pmems (pnd n) path (N + 1) v.m [] []).1⟩ :: (pmems (pnd n) path (N + 1) v.m [] []).2.1, (pmems (pnd n) path (N + 1) v.m [] []).2.2)
noncomputable def pcomp (v : JV) : List JNode × Int × ByteArray := if schB v = false then ([], 14, e0) else if ¬ (pnd (jsize v).toNat e0 v 0).2.1 = 0 then ([], (pnd (jsize v).toNat e0 v 0).2) else ((pnd (jsize v).toNat e0 v 0).1, 0, e0)
theorem pnd_m {n : Nat} {path : ByteArray} {v : JV} {N : Nat} (h : N = 200) : pnd (n + 1) path v N = ([], 5, path) := by rw [pnd, if_pos h]
theorem pnd_g {n : Nat} {path : ByteArray} {v : JV} {N : Nat} {ks : List JKey} {ex : List JNode} {c : Int} {p : ByteArray} (h : ¬ N = 200) (hr : pmems (pnd n) path (N + 1) v.m [] [] = (ks, ex, c, p)) : pnd (n + 1) path v N = (⟨path, decide (v.kind = 1), decide (v.kind = 1) && v.b, ks⟩ :: ex, c, p) := by rw [pnd, if_neg h, hr]
theorem pmems_b {f : PF} {path : ByteArray} {N : Nat} {q : BJ} {r : List BJ} {ks : List JKey} {ex : List JNode} {kd : List JKid} {e2 : List JNode} {c : Int} {p : ByteArray} (h : pkey f path q.1 q.2 (N + ex.length) = (kd, e2, c, p)) (hc : ¬ c = 0) : pmems f path N (q :: r) ks ex = (ks, ex ++ e2, c, p) := by
  obtain ⟨a, b⟩ := q; simp only at h; rw [pmems, h]; simp only; rw [if_pos hc]
theorem pmems_g {f : PF} {path : ByteArray} {N : Nat} {q : BJ} {r : List BJ} {ks : List JKey} {ex : List JNode} {kd : List JKid} {e2 : List JNode} {c : Int} {p : ByteArray} (h : pkey f path q.1 q.2 (N + ex.length) = (kd, e2, c, p)) (hc : c = 0) : pmems f path N (q :: r) ks ex = pmems f path N r (ks ++ [⟨q.1, q.2, kd⟩]) (ex ++ e2) := by
  obtain ⟨a, b⟩ := q; simp only at h; rw [pmems, h]; simp only; rw [if_neg (fun z => z hc)]
theorem pkey_s {f : PF} {path nm : ByteArray} {x : JV} {N : Nat} (h : ¬ rShape nm x = 0) : pkey f path nm x N = ([], [], rShape nm x, path ++ pth nm) := by unfold pkey; rw [if_pos h]
theorem pkey_k {f : PF} {path nm : ByteArray} {x : JV} {N : Nat} (h : rShape nm x = 0) : pkey f path nm x N = pkids f (path ++ pth nm) (decide (rk nm = 8)) N (kidsM nm x) [] [] := by unfold pkey; rw [if_neg (fun z => z h)]
theorem pkids_b {f : PF} {u : ByteArray} {sg : Bool} {N : Nat} {q : BJ} {r : List BJ} {kd : List JKid} {ex e2 : List JNode} {c : Int} {p : ByteArray} (h : f (if sg = true then u else u ++ pth q.1) q.2 (N + ex.length) = (e2, c, p)) (hc : ¬ c = 0) : pkids f u sg N (q :: r) kd ex = (kd ++ [⟨q.1, ((N + ex.length : Nat) : Int)⟩], ex ++ e2, c, p) := by
  obtain ⟨a, b⟩ := q; simp only at h; rw [pkids, h]; simp only; rw [if_pos hc]
theorem pkids_g {f : PF} {u : ByteArray} {sg : Bool} {N : Nat} {q : BJ} {r : List BJ} {kd : List JKid} {ex e2 : List JNode} {c : Int} {p : ByteArray} (h : f (if sg = true then u else u ++ pth q.1) q.2 (N + ex.length) = (e2, c, p)) (hc : c = 0) : pkids f u sg N (q :: r) kd ex = pkids f u sg N r (kd ++ [⟨q.1, ((N + ex.length : Nat) : Int)⟩]) (ex ++ e2) := by
  obtain ⟨a, b⟩ := q; simp only at h; rw [pkids, h]; simp only; rw [if_neg (fun z => z hc)]
def PLen (f : PF) : Prop := ∀ p x N, N ≤ 200 → N + (f p x N).1.length ≤ 200
theorem pkids_len {f : PF} (hf : PLen f) (u : ByteArray) (sg : Bool) (N : Nat) : ∀ (r : List BJ) (kd : List JKid) (ex : List JNode), N + ex.length ≤ 200 → N + (pkids f u sg N r kd ex).2.1.length ≤ 200
  | [], kd, ex, h => h
  | q :: r, kd, ex, h => by
    have h1 := hf (if sg = true then u else u ++ pth q.1) q.2 (N + ex.length) h
    cases hr : f (if sg = true then u else u ++ pth q.1) q.2 (N + ex.length) with
    | mk e2 z =>
      obtain ⟨c, p⟩ := z
      rw [hr] at h1
      simp only at h1
      by_cases hc : c = 0
      · rw [pkids_g hr hc]; exact pkids_len hf u sg N r _ _ (by rw [List.length_append]; omega)
      · rw [pkids_b hr hc]; simp only [List.length_append]; omega
theorem pkey_len {f : PF} (hf : PLen f) (path nm : ByteArray) (x : JV) {N : Nat} (h : N ≤ 200) : N + (pkey f path nm x N).2.1.length ≤ 200 := by
  by_cases hs : rShape nm x = 0
  · rw [pkey_k hs]; exact pkids_len hf _ _ N _ [] [] (by simpa using h)
  · rw [pkey_s hs]; exact h
theorem pmems_len {f : PF} (hf : PLen f) (path : ByteArray) (N : Nat) : ∀ (r : List BJ) (ks : List JKey) (ex : List JNode), N + ex.length ≤ 200 → N + (pmems f path N r ks ex).2.1.length ≤ 200
  | [], ks, ex, h => h
  | q :: r, ks, ex, h => by
    have h1 := pkey_len hf path q.1 q.2 h
    cases hr : pkey f path q.1 q.2 (N + ex.length) with
    | mk kd z =>
      obtain ⟨e2, c, p⟩ := z
      rw [hr] at h1
      simp only at h1
      by_cases hc : c = 0
      · rw [pmems_g hr hc]; exact pmems_len hf path N r _ _ (by rw [List.length_append]; omega)
      · rw [pmems_b hr hc]; simp only [List.length_append]; omega
theorem pnd_len : ∀ n, PLen (pnd n)
  | 0, p, x, N, h => h
  | n + 1, p, x, N, h => by
    by_cases hl : N = 200
    · rw [pnd_m hl]; exact h
    · cases hr : pmems (pnd n) p (N + 1) x.m [] [] with
      | mk ks z =>
        obtain ⟨ex, c, q⟩ := z
        have h1 := pmems_len (pnd_len n) p (N + 1) x.m [] [] (by simp; omega)
        rw [hr] at h1
        rw [pnd_g hl hr]; simp only [List.length_cons] at h1 ⊢; omega
structure SameN (f : ByteArray → JV → MS → MS) (g : PF) : Prop where
  bad : ∀ p x m, ¬ m.bad = 0 → f p x m = m
  ok : ∀ p x m, jmay x → m.bad = 0 → (g p x m.l.length).2.1 = 0 → (f p x m).bad = 0 ∧ (f p x m).l = m.l ++ (g p x m.l.length).1
  no : ∀ p x m, jmay x → m.bad = 0 → ¬ (g p x m.l.length).2.1 = 0 → (f p x m).bad = (g p x m.l.length).2.1 ∧ (f p x m).path = (g p x m.l.length).2.2
section
variable {f : ByteArray → JV → MS → MS} {g : PF}
theorem rkids_b (h : SameN f g) (u : ByteArray) (sg : Bool) : ∀ (r : List BJ) (m : MS), ¬ m.bad = 0 → (rkids f u sg r m).2 = m
  | [], m, _ => rfl
  | (k, x) :: r, m, hb => by rw [rkids]; simp only; rw [h.bad _ _ _ hb]; exact rkids_b h u sg r m hb
theorem pkids_ok (h : SameN f g) (u : ByteArray) (sg : Bool) (N : Nat) : ∀ (r : List BJ) (kd : List JKid) (ex : List JNode) (m : MS), (∀ q ∈ r, jmay q.2) → m.bad = 0 → m.l.length = N + ex.length →
    ((pkids g u sg N r kd ex).2.2.1 = 0 → (rkids f u sg r m).2.bad = 0 ∧ (pkids g u sg N r kd ex).1 = kd ++ (rkids f u sg r m).1 ∧ ∃ e2, (pkids g u sg N r kd ex).2.1 = ex ++ e2 ∧ (rkids f u sg r m).2.l = m.l ++ e2) ∧
    (¬ (pkids g u sg N r kd ex).2.2.1 = 0 → (rkids f u sg r m).2.bad = (pkids g u sg N r kd ex).2.2.1 ∧ (rkids f u sg r m).2.path = (pkids g u sg N r kd ex).2.2.2)
  | [], kd, ex, m, _, hb, _ => ⟨fun _ => ⟨hb, by simp [pkids, rkids], [], by simp [pkids], by simp [rkids]⟩, fun h => absurd rfl h⟩
  | (k, x) :: r, kd, ex, m, hj, hb, hl => by
    have hx := hj _ (.head _)
    have h1 := h.ok (if sg = true then u else u ++ pth k) x m hx hb
    have h2 := h.no (if sg = true then u else u ++ pth k) x m hx hb
    rw [hl] at h1 h2
    cases hr : g (if sg = true then u else u ++ pth k) x (N + ex.length) with
    | mk e2 z =>
      obtain ⟨c, p⟩ := z
      rw [hr] at h1 h2
      simp only at h1 h2
      rw [rkids]
      simp only
      by_cases hc : c = 0
      · obtain ⟨h3, h4⟩ := h1 hc
        have ih := pkids_ok h u sg N r (kd ++ [⟨k, ((N + ex.length : Nat) : Int)⟩]) (ex ++ e2) (f (if sg = true then u else u ++ pth k) x m) (fun q hq => hj q (.tail _ hq)) h3 (by rw [h4, List.length_append, List.length_append]; omega)
        rw [pkids_g (q := (k, x)) hr hc]
        refine ⟨fun z => ?_, ih.2⟩
        obtain ⟨i1, i2, e3, i3, i4⟩ := ih.1 z
        refine ⟨i1, ?_, e2 ++ e3, ?_, ?_⟩
        · rw [i2, hl]; simp
        · rw [i3, List.append_assoc]
        · rw [i4, h4, List.append_assoc]
      · obtain ⟨h3, h4⟩ := h2 hc
        rw [pkids_b (q := (k, x)) hr hc]
        refine ⟨fun z => absurd z hc, fun _ => ?_⟩
        rw [rkids_b h u sg r _ (by rw [h3]; exact hc)]
        exact ⟨h3, h4⟩
theorem pmems_ok (h : SameN f g) (path : ByteArray) (N : Nat) : ∀ (r : List BJ) (ks : List JKey) (ex : List JNode) (m : MS), (∀ q ∈ r, jmay q.2) → m.bad = 0 → m.l.length = N + ex.length →
    ((pmems g path N r ks ex).2.2.1 = 0 → (rmems f path r ks m).1 = false ∧ (rmems f path r ks m).2.2.bad = 0 ∧ (pmems g path N r ks ex).1 = (rmems f path r ks m).2.1 ∧ ∃ e2, (pmems g path N r ks ex).2.1 = ex ++ e2 ∧ (rmems f path r ks m).2.2.l = m.l ++ e2) ∧
    (¬ (pmems g path N r ks ex).2.2.1 = 0 → (rmems f path r ks m).2.2.bad = (pmems g path N r ks ex).2.2.1 ∧ (rmems f path r ks m).2.2.path = (pmems g path N r ks ex).2.2.2)
  | [], ks, ex, m, _, hb, _ => ⟨fun _ => ⟨rfl, hb, rfl, [], by simp [pmems], by simp [rmems]⟩, fun h => absurd rfl h⟩
  | (nm, x) :: r, ks, ex, m, hj, hb, hl => by
    have hx := hj _ (.head _)
    by_cases hs : rShape nm x = 0
    · have hk := pkids_ok h (path ++ pth nm) (decide (rk nm = 8)) (N + ex.length) (kidsM nm x) [] [] m (fun q hq => by obtain ⟨i, hi⟩ := List.mem_iff_getElem?.1 hq; exact kids_may hx hi) hb (by simpa using hl)
      rw [← pkey_k (f := g) hs] at hk
      cases hr : pkey g path nm x (N + ex.length) with
      | mk kd z =>
        obtain ⟨e2, c, p⟩ := z
        rw [hr] at hk
        simp only at hk
        cases hrk : rkids f (path ++ pth nm) (decide (rk nm = 8)) (kidsM nm x) m with
        | mk kd' m' =>
          rw [hrk] at hk
          simp only at hk
          rw [rmems_k hb hs hrk]
          by_cases hc : c = 0
          · obtain ⟨h3, h4, e3, h5, h6⟩ := hk.1 hc
            simp only [List.nil_append] at h4 h5
            subst h4; subst h5
            have ih := pmems_ok h path N r (ks ++ [⟨nm, x, kd⟩]) (ex ++ e2) m' (fun q hq => hj q (.tail _ hq)) h3 (by rw [h6, List.length_append, List.length_append]; omega)
            rw [pmems_g (q := (nm, x)) hr hc]
            refine ⟨fun z => ?_, ih.2⟩
            obtain ⟨i1, i2, i3, e4, i4, i5⟩ := ih.1 z
            exact ⟨i1, i2, i3, e2 ++ e4, by rw [i4, List.append_assoc], by rw [i5, h6, List.append_assoc]⟩
          · obtain ⟨h3, h4⟩ := hk.2 hc
            rw [pmems_b (q := (nm, x)) hr hc]
            refine ⟨fun z => absurd z hc, fun _ => ?_⟩
            rw [rmems_e (.inr (by rw [h3]; exact hc))]
            exact ⟨h3, h4⟩
    · have hr : pkey g path nm x (N + ex.length) = ([], [], rShape nm x, path ++ pth nm) := pkey_s hs
      rw [rmems_s hb hs, pmems_b (q := (nm, x)) hr hs]
      exact ⟨fun z => absurd z hs, fun _ => ⟨rfl, rfl⟩⟩
end
theorem setk_mid (a : List JNode) (n : JNode) (b : List JNode) (ks : List JKey) : setk (a ++ n :: b) a.length ks = a ++ ⟨n.path, n.all, n.pass, ks⟩ :: b := by
  induction a with
  | nil => rfl
  | cons x a ih => show x :: setk (a ++ n :: b) a.length ks = _; rw [ih]; rfl
theorem mayb_k {v : JV} (h : jmay v) : (decide (v.kind = 1) && v.b) = v.b := by
  have hb := ((jmay_eq v).1 h).1.2.2.1
  by_cases hk : v.kind = 1
  · rw [decide_eq_true hk]; rfl
  · cases hvb : v.b with
    | false => simp
    | true => exfalso; unfold jbare at hb; rw [hvb] at hb; simp [hk] at hb
theorem rnd_same : ∀ n, SameN (rnd n) (pnd n)
  | 0 => ⟨fun _ _ _ _ => rfl, fun p x m _ hb _ => ⟨hb, by simp [rnd, pnd]⟩, fun p x m _ _ h => absurd rfl h⟩
  | n + 1 => by
    refine ⟨fun p x m hb => rnd_b hb, fun p x m hx hb => ?_, fun p x m hx hb => ?_⟩
    all_goals
      by_cases hl : m.l.length = 200
      · rw [pnd_m hl, rnd_m hb hl]; intro h; first | exact ⟨rfl, rfl⟩ | exact absurd (show (5 : Int) = 0 from h) (by decide)
      have hm := pmems_ok (rnd_same n) p (m.l.length + 1) x.m [] [] (m1 m p x) (fun q hq => by obtain ⟨i, hi⟩ := List.mem_iff_getElem?.1 hq; exact mayM_get hx hi) hb (by simp [m1])
      cases hr : pmems (pnd n) p (m.l.length + 1) x.m [] [] with
      | mk ks z =>
        obtain ⟨ex, c, q⟩ := z
        rw [hr] at hm
        simp only at hm
        rw [pnd_g hl hr]
        intro hc
        simp only at hc
        cases hrr : rmems (rnd n) p x.m [] (m1 m p x) with
        | mk b z2 =>
          obtain ⟨ks2, m'⟩ := z2
          rw [hrr] at hm
          simp only at hm
          first
            | (obtain ⟨h3, h4, h5, e2, h6, h7⟩ := hm.1 (show c = 0 from hc)
               subst h3
               rw [rnd_f hb hl hrr]
               refine ⟨h4, ?_⟩
               show setk m'.l m.l.length ks2 = _
               rw [h7]
               simp only [m1, List.append_assoc, List.singleton_append, List.nil_append] at h6 ⊢
               rw [setk_mid, h6, h5, mayb_k hx])
            | (obtain ⟨h3, h4⟩ := hm.2 (show ¬ c = 0 from hc)
               cases b with
               | true => rw [rnd_t hb hl hrr]; exact ⟨h3, h4⟩
               | false => rw [rnd_f hb hl hrr]; exact ⟨h3, h4⟩)
theorem pcomp_eq {v : JV} (h : jmay v) : pcomp v = jcomp v := by
  have hs := rnd_same (jsize v).toNat
  have h1 := hs.ok e0 v ⟨[], 0, e0⟩ h rfl
  have h2 := hs.no e0 v ⟨[], 0, e0⟩ h rfl
  simp only [List.length_nil, List.nil_append] at h1 h2
  unfold pcomp jcomp rnode
  by_cases hb : schB v = false
  · rw [if_pos hb, if_pos hb]
  · rw [if_neg hb, if_neg hb]
    by_cases hc : (pnd (jsize v).toNat e0 v 0).2.1 = 0
    · obtain ⟨h3, h4⟩ := h1 hc
      rw [if_neg (fun z => z hc), if_neg (fun z => z h3), h4]
    · obtain ⟨h3, h4⟩ := h2 hc
      rw [if_pos hc, if_pos (by rw [h3]; exact hc), h3, h4]
def kadd (ks : List JKey) (nm : ByteArray) (x : JV) (kd : List JKid) (c : Int) : List JKey := if c = 0 then ks ++ [⟨nm, x, kd⟩] else ks
theorem kadd_0 (ks : List JKey) (nm : ByteArray) (x : JV) (kd : List JKid) {c : Int} (h : c = 0) : kadd ks nm x kd c = ks ++ [⟨nm, x, kd⟩] := by unfold kadd; rw [if_pos h]
theorem kadd_n (ks : List JKey) (nm : ByteArray) (x : JV) (kd : List JKid) {c : Int} (h : ¬ c = 0) : kadd ks nm x kd c = ks := by unfold kadd; rw [if_neg h]
section
variable [GLay]
theorem noder_app (a b : List JNode) : noder (a ++ b) = noder a ++ noder b := by simp [noder]
theorem noder_nil : noder [] = [] := rfl
def hd4 (p : ByteArray) (a b : Bool) (K : AV) : List AV := [.str p, .bool a, .bool b, K]
theorem mid_set {rows : List (List AV)} {N : Nat} (h : rows.length = N) (r r' : List AV) (s : List (List AV)) : (rows ++ r :: s).set N r' = rows ++ r' :: s := by
  subst h; rw [List.set_append_right _ _ (Nat.le_refl _), Nat.sub_self]; rfl
theorem mid_get {rows : List (List AV)} {N : Nat} (h : rows.length = N) (r : List AV) (s : List (List AV)) : (rows ++ r :: s)[N]? = some r := by
  subst h; rw [List.getElem?_append_right (Nat.le_refl _), Nat.sub_self]; rfl
theorem row_flat {rows : List (List AV)} {i : Nat} {r : List AV} {sz : Nat} (hel : ∀ e ∈ rows, e.length = sz) (h : rows[i]? = some r) {j : Nat} {v : AV} (hv : r[j]? = some v) : rows.flatten[i * sz + j]? = some v := by
  obtain ⟨hi, h2⟩ := List.getElem?_eq_some_iff.1 h
  have e := List.take_append_drop i rows
  rw [List.drop_eq_getElem_cons hi, h2] at e
  have hl : (rows.take i).length = i := by rw [List.length_take]; omega
  have := flat_get (A := rows.take i) (B := rows.drop (i + 1)) (r := r) (fun x hx => hel x (List.mem_of_mem_take hx)) hv
  rwa [hl, e] at this
theorem row_set {rows : List (List AV)} {i : Nat} {r : List AV} {sz : Nat} (hel : ∀ e ∈ rows, e.length = sz) (h : rows[i]? = some r) {j : Nat} (hj : j < r.length) (v : AV) : rows.flatten.set (i * sz + j) v = (rows.set i (r.set j v)).flatten := by
  obtain ⟨hi, h2⟩ := List.getElem?_eq_some_iff.1 h
  have e := List.take_append_drop i rows
  rw [List.drop_eq_getElem_cons hi, h2] at e
  have hl : (rows.take i).length = i := by rw [List.length_take]; omega
  have := flat_set (A := rows.take i) (B := rows.drop (i + 1)) (r := r) (fun x hx => hel x (List.mem_of_mem_take hx)) hj v
  rw [hl, e] at this
  rw [this]
  congr 1
  have h3 := List.set_eq_take_append_cons_drop (l := rows) (i := i) (a := r.set j v)
  rw [if_pos hi] at h3; exact h3.symm
theorem rows_el {rows : List (List AV)} (h : ∀ e ∈ rows, e.length = 4) (ex : List JNode) : ∀ e ∈ rows ++ noder ex, e.length = 4 := fun e he => (List.mem_append.1 he).elim (h e) (noder_el ex e)
theorem rows_el2 {rows : List (List AV)} (h : ∀ e ∈ rows, e.length = 4) (p : ByteArray) (a b : Bool) (K : AV) (ex : List JNode) : ∀ e ∈ rows ++ hd4 p a b K :: noder ex, e.length = 4 := fun e he => by
  rcases List.mem_append.1 he with he | he
  · exact h e he
  · rcases List.mem_cons.1 he with rfl | he
    · rfl
    · exact noder_el ex e he
theorem rows_fl {rows : List (List AV)} {N : Nat} (h : ∀ e ∈ rows, e.length = 4) (hl : rows.length = N) : rows.flatten.length = N * 4 := by rw [flatten_len h, hl]
theorem open_get {rows : List (List AV)} {N : Nat} (hre : ∀ e ∈ rows, e.length = 4) (hrl : rows.length = N) (p : ByteArray) (a b : Bool) (K : AV) (ex : List JNode) : (rows ++ hd4 p a b K :: noder ex).flatten[N * 4 + 3]? = some K := row_flat (rows_el2 hre p a b K ex) (mid_get hrl _ _) rfl
theorem open_set {rows : List (List AV)} {N : Nat} (hre : ∀ e ∈ rows, e.length = 4) (hrl : rows.length = N) (p : ByteArray) (a b : Bool) (K K' : AV) (ex : List JNode) : (rows ++ hd4 p a b K :: noder ex).flatten.set (N * 4 + 3) K' = (rows ++ hd4 p a b K' :: noder ex).flatten := by
  rw [row_set (rows_el2 hre p a b K ex) (mid_get hrl _ _) (j := 3) (by show 3 < 4; decide), mid_set hrl]; rfl
theorem open_new {rows : List (List AV)} (p : ByteArray) (a b : Bool) (K : AV) : rows.flatten ++ [.str p, .bool a, .bool b, K] = (rows ++ hd4 p a b K :: noder []).flatten := by simp [noder, hd4]
theorem open_app {rows : List (List AV)} {N : Nat} (hrl : rows.length = N) (p : ByteArray) (a b : Bool) (K K' : AV) (ex e2 : List JNode) : (rows ++ hd4 p a b K :: noder ex).set N (hd4 p a b K') ++ noder e2 = rows ++ hd4 p a b K' :: noder (ex ++ e2) := by rw [mid_set hrl, noder_app]; simp
theorem open_end {rows : List (List AV)} (p : ByteArray) (a b : Bool) (ks : List JKey) (ex : List JNode) : rows ++ hd4 p a b (.sl false 10 (keyr ks)) :: noder ex = rows ++ noder (⟨p, a, b, ks⟩ :: ex) := rfl
theorem open_lt {rows : List (List AV)} {n : Nat} (h : AV.ltL n rows.flatten) (p : ByteArray) (a b : Bool) {K : AV} (hK : AV.lt n K) (ex : List JNode) : AV.ltL n (rows ++ hd4 p a b K :: noder ex).flatten := by
  rw [List.flatten_append, ltL_append]
  refine ⟨h, ?_⟩
  show AV.ltL n (hd4 p a b K ++ (noder ex).flatten)
  rw [ltL_append]
  exact ⟨⟨trivial, trivial, trivial, hK, trivial⟩, nflat_lt _ _⟩
theorem open_len (N : Nat) (x : JNode) (ex : List JNode) : N + (x :: ex).length = N + 1 + ex.length := by simp; omega
end
end Lg
set_option maxRecDepth 20000
set_option maxHeartbeats 4000000
namespace Lg
open Go Go.Proofs Go.RowKit
variable [GLay] 
def spE (z : Int × ByteArray) : AV := if z.1 = 0 then .nili else .iface 105 (.pp [.str z.2, .int .i64 z.1])
theorem spE_n {c : Int} (p : ByteArray) (h : ¬ c = 0) : spE (c, p) = .iface 105 (.pp [.str p, .int .i64 c]) := by unfold spE; rw [if_neg h]
theorem spE_0 {c : Int} (p : ByteArray) (h : c = 0) : spE (c, p) = .nili := by unfold spE; rw [if_pos h]
theorem op_neSpE {P : Program} {σ : List AO} {e : Env} {o : Oper} {T T' : TypeId} {x : Operand} {ms : Array (String × TypeId)} {z : Int × ByteArray} (ho : o.op = .binOp .neq T x (.const .nilIface) T') (hu : P.underlying T = some (.interface ms)) (hx : opO e x = some (spE z)) : AOp P σ e o (.bool (decide (¬ z.1 = 0))) σ := by
  unfold spE at hx
  split at hx
  · rename_i h; rw [decide_eq_false (fun g => g h)]; exact op_neINil ho hu hx
  · rename_i h; rw [decide_eq_true h]; exact op_neIN ho hu hx

theorem scfail_c (p : ByteArray) (c : Int) (σ : List AO) (h : ¬ c = 0) : ACalls Tryz.prog 36 [.str p, .int .i64 c] σ (Ret (spE (c, p)) σ) := by
 refine ACalls_body Tryz.func36 rfl Tryz.ntmps36 (res1 Tryz.results36) (Nat.le_of_ble_eq_true rfl) (fun hcl hal => ?_)
 rw [spE_n p h]
 refine zw1 ?_
 refine zw6 ?_
 refine AWp_freezeI (cs := [.str p, .int .i64 c]) 4 (σ.length + 0) 0 105 rfl (by rw [get_own]; rfl) ?_ (by decide)
 rw [set_own]
 refine zrt ?_
 exact ResQ_1 rfl hcl (by simp [AV.lt, AV.ltL]) (Ret_of rfl)
end Lg
set_option maxRecDepth 20000
set_option maxHeartbeats 4000000
namespace Lg
open Go Go.Proofs Go.RowKit
variable [GLay] 
theorem rpath_c (f : Bool) (l : List BL) (σ : List AO) (hl : l.length ≤ 2000000) (hx : ∀ x ∈ l, x.length ≤ 1000000) : ACalls Tryz.prog 65 [.sl f 1 (srow l)] σ (Ret (.str (ba (shw l))) σ) := by
 refine ACalls_body Tryz.func65 rfl Tryz.ntmps65 (res1 Tryz.results65) (Nat.le_of_ble_eq_true rfl) (fun hcl hal => ?_)
 have hrl := srow_len l
 refine zw1 ?_
 refine zw1 ?_
 refine AWp_seq ?_
 refine zw1 ?_
 refine AWp_block ?_
 -- loop 0 LIVE 0:param 2:assign 3:assign 4:assign
 refine AWp_loop (ι := Nat) (fun i => i ≤ l.length) (fun i => ⟨[], [(0, .sl f 1 (srow l)), (2, .str ⟨#[]⟩), (3, .str (ba (shw (l.take i)))), (4, .int .i64 (i : Int))]⟩) (fun i => σ) (fun i => l.length - i) (0) (Nat.zero_le _) ?_ rfl (fun i hi => ?_)
 ·exact ⟨rfl, rfl, rfl, rfl, rfl, trivial⟩
 have hsl := shw_len 1000000 (l.take i) (fun x h => hx x (List.mem_of_mem_take h))
 have htl : (l.take i).length ≤ 2000000 := by rw [List.length_take]; omega
 have hsl2 : (shw (l.take i)).length ≤ 2000000 * 2000001 := Nat.le_trans hsl (Nat.mul_le_mul htl (Nat.le_refl _))
 refine AWp_seq ?_
 refine zw4 ?_
 refine AWp_cond rfl (fun h1 => ?_) (fun h1 => ?_)
 ·(try rw [h1]); replace h1 := zcl h1
  obtain ⟨nm, hxi⟩ : ∃ nm, l[i]? = some nm := ⟨_, List.getElem?_eq_getElem (show i < l.length by omega)⟩
  have hxr := srow_get hxi
  have hxl := hx nm (List.mem_of_getElem? hxi)
  have z1 : (ByteArray.mk #[47]).size = 1 := rfl
  have z3 : (ba (shw (l.take i))).size = (shw (l.take i)).length := ba_size _
  refine AWp_skip ?_
  refine AWp_seq ?_
  refine AWp_block ?_
  refine zw3 ?_
  refine zw1 ?_
  refine AWp_block ?_
  -- loop 1 LIVE 0:param 2:assign 3:assign 4:assign 5:assign
  refine AWp_loop (ι := Nat) (fun j => j ≤ nm.length) (fun j => ⟨[], [(0, .sl f 1 (srow l)), (2, .str ⟨#[]⟩), (3, .str (ba (shw (l.take i) ++ 47 :: pesc (nm.take j)))), (4, .int .i64 (i : Int)), (5, .int .i64 (j : Int))]⟩) (fun j => σ) (fun j => nm.length - j) (0) (Nat.zero_le _) ?_ rfl (fun j hj => ?_)
  ·refine ⟨rfl, rfl, rfl, ?_, rfl, rfl, trivial⟩
   rw [show (shw (l.take i) ++ 47 :: pesc (nm.take 0) : BL) = shw (l.take i) ++ [47] by simp [pesc], ← ba_app]; rfl
  refine AWp_seq ?_
  refine zu3 ?_
  refine zt rfl (op_indexAddr rfl Tryz.underlying48 Tryz.sizeOf9 rfl rfl (by omega) (hxr)) ?_
  refine zv3 ?_
  refine AWp_cond rfl (fun h2 => ?_) (fun h2 => ?_)
  ·(try rw [h2]); replace h2 := zcl h2
   have hbn := ba_size nm
   obtain ⟨c, hc⟩ : ∃ c, nm[j]? = some c := ⟨_, List.getElem?_eq_getElem (show j < nm.length by omega)⟩
   have hbc : bat (ba nm) (j : Int).toNat = c := by rw [Int.toNat_natCast, bat_ba, List.getD_eq_getElem?_getD, hc]; rfl
   have hbj : bat (ba nm) j = c := by rw [← hbc, Int.toNat_natCast]
   have he1 := esc_len (nm.take j)
   have htj : (nm.take j).length ≤ 1000000 := by rw [List.length_take]; omega
   have z2 : (ba (shw (l.take i) ++ 47 :: pesc (nm.take j))).size = (shw (l.take i)).length + (pesc (nm.take j)).length + 1 := by rw [ba_size, List.length_append, List.length_cons]; omega
   have z4 : (ByteArray.mk #[126, 48]).size = 2 := rfl
   have z5 : (ByteArray.mk #[126, 49]).size = 2 := rfl
   have z6 : ∀ b : UInt8, (ByteArray.mk #[b]).size = 1 := fun _ => rfl
   refine AWp_skip ?_
   refine AWp_seq ?_
   refine AWp_block ?_
   refine zu2 ?_
   refine zt rfl (op_indexAddr rfl Tryz.underlying48 Tryz.sizeOf9 rfl rfl (by omega) (hxr)) ?_
   refine zv3 ?_
   refine AWp_block ?_
   refine zw2 ?_
   refine AWp_cond rfl (fun h3 => ?_) (fun h3 => ?_)
   ·(try rw [h3]); replace h3 := zcl h3
    have h3 : c = 126 := by rw [hbj] at h3; exact UInt8.toNat_inj.1 (Int.ofNat.inj h3)
    refine AWp_regL ?_
    refine zv3 ?_
    refine AWp_regL ?_
    refine zv3 ?_
    have hes : pesc (nm.take (j + 1)) = pesc (nm.take j) ++ [126, 48] := by rw [ltake_succ hc]; simp [pesc, pesc1, h3]
    refine ⟨j + 1, σ.length, by omega, by omega, Nat.le_refl _, ⟨rfl, rfl, rfl, ?_, rfl, rfl, trivial⟩, hcl, by simp [ltE, AV.lt], List.take_length⟩
    rw [hes, show (shw (l.take i) ++ 47 :: (pesc (nm.take j) ++ [126, 48]) : BL) = (shw (l.take i) ++ 47 :: pesc (nm.take j)) ++ [126, 48] by simp, ← ba_app]; rfl
   ·(try rw [h3]); replace h3 := zcl h3
    have h3 : ¬ c = 126 := fun e => by subst e; rw [hbj] at h3; exact h3 rfl
    refine zw2 ?_
    refine AWp_cond rfl (fun h4 => ?_) (fun h4 => ?_)
    ·(try rw [h4]); replace h4 := zcl h4
     have h4 : c = 47 := by rw [hbj] at h4; exact UInt8.toNat_inj.1 (Int.ofNat.inj h4)
     refine AWp_regL ?_
     refine zv3 ?_
     refine AWp_regL ?_
     refine zv3 ?_
     have hes : pesc (nm.take (j + 1)) = pesc (nm.take j) ++ [126, 49] := by rw [ltake_succ hc]; simp [pesc, pesc1, h3, h4]
     refine ⟨j + 1, σ.length, by omega, by omega, Nat.le_refl _, ⟨rfl, rfl, rfl, ?_, rfl, rfl, trivial⟩, hcl, by simp [ltE, AV.lt], List.take_length⟩
     rw [hes, show (shw (l.take i) ++ 47 :: (pesc (nm.take j) ++ [126, 49]) : BL) = (shw (l.take i) ++ 47 :: pesc (nm.take j)) ++ [126, 49] by simp, ← ba_app]; rfl
    ·(try rw [h4]); replace h4 := zcl h4
     have h4 : ¬ c = 47 := fun e => by subst e; rw [hbj] at h4; exact h4 rfl
     refine AWp_regL ?_
     refine zg3 ?_
     refine zt rfl (op_indexAddr rfl Tryz.underlying48 Tryz.sizeOf9 rfl rfl (by omega) (hxr)) ?_
     refine zg3 ?_
     refine zt rfl (op_buildSlice [[_]] rfl Tryz.underlying146 Tryz.sizeOf5 Tryz.zeroValue5 rfl (by decide) (by decide) rfl rfl rfl rfl rfl) ?_
     refine zt rfl (op_bytesStr (b := ⟨#[bat (ba nm) (j : Int).toNat]⟩) (m := 1) rfl Tryz.underlying146 Tryz.underlying5 Tryz.underlying9 rfl rfl rfl) ?_
     rw [hbc]
     have z7 := z6 c
     refine zv2 ?_
     refine AWp_regL ?_
     refine zv3 ?_
     have hes : pesc (nm.take (j + 1)) = pesc (nm.take j) ++ [c] := by rw [ltake_succ hc]; simp [pesc, pesc1, h3, h4]
     refine ⟨j + 1, σ.length, by omega, by omega, Nat.le_refl _, ⟨rfl, rfl, rfl, ?_, rfl, rfl, trivial⟩, hcl, by simp [ltE, AV.lt], List.take_length⟩
     rw [hes, show (shw (l.take i) ++ 47 :: (pesc (nm.take j) ++ [c]) : BL) = (shw (l.take i) ++ 47 :: pesc (nm.take j)) ++ [c] by simp, ← ba_app]; rfl
  ·(try rw [h2]); replace h2 := zcl h2
   have hbn := ba_size nm
   have hje : j = nm.length := by omega
   subst hje
   rw [List.take_length]
   refine AWp_exit ?_
   refine AWp_regL ?_
   refine zv3 ?_
   refine ⟨i + 1, σ.length, by omega, by omega, Nat.le_refl _, ⟨rfl, rfl, rfl, ?_, rfl, trivial⟩, hcl, by simp [ltE, AV.lt], List.take_length⟩
   rw [ltake_succ hxi, shw_snoc]; rfl
 ·(try rw [h1]); replace h1 := zcl h1
  have hie : i = l.length := by omega
  subst hie
  rw [List.take_length]
  refine AWp_exit ?_
  refine zw2 ?_
  refine zrt ?_
  exact ResQ_10 rfl hcl trivial (Ret_of rfl)
end Lg
set_option maxRecDepth 20000
set_option maxHeartbeats 4000000
namespace Lg
open Go Go.Proofs Go.RowKit
variable [GLay] 
theorem ixfV_c (k : Nat) (fn : Go.Func) (hfn : Tryz.prog.funcs[k]? = some fn) (hname : (fn.name == "runtime.NumGoroutine") = false) (hb : fn.body.isNone = false) (cp : List AV) (hcp : ∀ n, AV.ltL n cp) (l : List JV) (p : JV → Bool) (σ : List AO) (hl : l.length ≤ 1000000000) (hf : ∀ (i : Nat) x, l[i]? = some x → ACalls Tryz.prog k (.agg (vcells x) :: cp) σ (Ret (.bool (p x)) σ)) : ACalls Tryz.prog 152 [.sl false 8 (lcells l), .func (.func k) [] cp] σ (fun o σ' => σ' = σ ∧ ∃ n : Int, o = .ret (.int .i64 n) ∧ ((l.any p = true ∧ 0 ≤ n) ∨ (l.any p = false ∧ n = -1))) := by
 refine ACalls_body Tryz.func152 rfl Tryz.ntmps152 (res1 Tryz.results152) (Nat.le_of_ble_eq_true rfl) (fun hcl hal => ?_)
 refine zw1 ?_
 refine AWp_seq ?_
 refine zw3 ?_
 refine AWp_block ?_
 -- loop 0 LIVE 0:param 1:param 4:assign 7:call 8:move
 refine AWp_loop (ι := Nat) (fun i => i ≤ l.length ∧ ∀ (j : Nat) x, j < i → l[j]? = some x → p x = false) (fun i => ⟨[], [(0, .sl false 8 (lcells l)), (1, .func (.func k) [] cp), (7, .int .i64 (l.length : Int)), (8, .int .i64 (i : Int))]⟩) (fun i => σ) (fun i => l.length - i) (0) (⟨Nat.zero_le _, fun j x hj => absurd hj (by omega)⟩) ?_ rfl (fun i hi => ?_)
 ·refine ⟨rfl, rfl, rfl, ?_, rfl, trivial⟩
  rw [← lcells_length]; rfl
 obtain ⟨hi1, hi2⟩ := hi
 refine zw1 ?_
 refine AWp_seq ?_
 refine AWp_cond rfl (fun h1 => ?_) (fun h1 => ?_)
 ·(try rw [h1]); replace h1 := zcl h1
  have hlt : i < l.length := by omega
  obtain ⟨x, hx⟩ : ∃ x, l[i]? = some x := ⟨_, List.getElem?_eq_getElem hlt⟩
  refine AWp_skip ?_
  refine AWp_seq ?_
  refine AWp_block ?_
  refine zw2 ?_
  refine zu4 ?_
  rw [vcells_eq x]
  refine zg1 ?_
  refine zt rfl (op_callF rfl rfl rfl hfn hname hb (vcells_eq x ▸ hf i x hx)) ?_
  refine zon ?_
  refine AWp_cond rfl (fun h2 => ?_) (fun h2 => ?_)
  ·(try rw [h2]); replace h2 := zcl h2
   refine zw2 ?_
   refine zrt ?_
   refine ResQ_10 rfl hcl ?_ ?_
   ·trivial
   ·exact ⟨rfl, _, rfl, .inl ⟨List.any_eq_true.2 ⟨x, List.mem_of_getElem? hx, h2⟩, by omega⟩⟩
  ·(try rw [h2]); replace h2 := zcl h2
   refine AWp_skip ?_
   refine AWp_regL ?_
   refine zv2 ?_
   refine ⟨i + 1, σ.length, ⟨by omega, fun j y hj hy => ?_⟩, by omega, Nat.le_refl _, ⟨rfl, rfl, rfl, rfl, rfl, trivial⟩, hcl, ?_, List.take_length⟩
   ·by_cases e : j = i
    ·subst e; rw [hx] at hy; cases hy; exact h2
    ·exact hi2 j y (by omega) hy
   ·simp [ltE, AV.lt, AV.ltL, hcp]
 ·(try rw [h1]); replace h1 := zcl h1
  refine AWp_exit ?_
  refine zw1 ?_
  refine zrt ?_
  refine ResQ_10 rfl hcl ?_ ⟨rfl, _, rfl, .inr ⟨?_, rfl⟩⟩
  trivial
  rw [List.any_eq_false]
  intro x hx
  obtain ⟨j, hj⟩ := List.getElem?_of_mem hx
  have := hi2 j x (by have := (List.getElem?_eq_some_iff.1 hj).1; omega) hj
  simp [this]

theorem ctfV_c (k : Nat) (fn : Go.Func) (hfn : Tryz.prog.funcs[k]? = some fn) (hname : (fn.name == "runtime.NumGoroutine") = false) (hb : fn.body.isNone = false) (cp : List AV) (hcp : ∀ n, AV.ltL n cp) (l : List JV) (p : JV → Bool) (σ : List AO) (hl : l.length ≤ 1000000000) (hf : ∀ (i : Nat) x, l[i]? = some x → ACalls Tryz.prog k (.agg (vcells x) :: cp) σ (Ret (.bool (p x)) σ)) : ACalls Tryz.prog 113 [.sl false 8 (lcells l), .func (.func k) [] cp] σ (Ret (.bool (l.any p)) σ) := by
 refine ACalls_body Tryz.func113 rfl Tryz.ntmps113 (res1 Tryz.results113) (Nat.le_of_ble_eq_true rfl) (fun hcl hal => ?_)
 refine zw1 ?_
 refine zu2 ?_
 refine ztR rfl (zcR rfl (ixfV_c k fn hfn hname hb cp hcp l p σ hl hf)) (fun v1_2 s1_2 hr => ?_) (fun v1_2 s1_2 hr => ?_)
 rotate_left
 ·obtain ⟨_, n, h, _⟩ := hr; cases h
 obtain ⟨rfl, n, h, hn⟩ := hr; cases h
 refine zv2 ?_
 refine zrt ?_
 refine ResQ_10 rfl hcl trivial (Ret_of ?_)
 congr 1
 rcases hn with ⟨h1, h2⟩ | ⟨h1, h2⟩
 ·rw [h1]; simp; exact h2
 ·rw [h1, h2]; rfl

theorem ixfM_c (k : Nat) (fn : Go.Func) (hfn : Tryz.prog.funcs[k]? = some fn) (hname : (fn.name == "runtime.NumGoroutine") = false) (hb : fn.body.isNone = false) (cp : List AV) (hcp : ∀ n, AV.ltL n cp) (l : List (ByteArray × JV)) (p : (ByteArray × JV) → Bool) (σ : List AO) (hl : l.length ≤ 1000000000) (hf : ∀ (i : Nat) x, l[i]? = some x → ACalls Tryz.prog k (.agg (.str x.1 :: vcells x.2) :: cp) σ (Ret (.bool (p x)) σ)) : ACalls Tryz.prog 219 [.sl false 9 (mcells l), .func (.func k) [] cp] σ (fun o σ' => σ' = σ ∧ ∃ n : Int, o = .ret (.int .i64 n) ∧ ((l.any p = true ∧ 0 ≤ n) ∨ (l.any p = false ∧ n = -1))) := by
 refine ACalls_body Tryz.func219 rfl Tryz.ntmps219 (res1 Tryz.results219) (Nat.le_of_ble_eq_true rfl) (fun hcl hal => ?_)
 refine zw1 ?_
 refine AWp_seq ?_
 refine zw3 ?_
 refine AWp_block ?_
 -- loop 0 LIVE 0:param 1:param 4:assign 7:call 8:move
 refine AWp_loop (ι := Nat) (fun i => i ≤ l.length ∧ ∀ (j : Nat) x, j < i → l[j]? = some x → p x = false) (fun i => ⟨[], [(0, .sl false 9 (mcells l)), (1, .func (.func k) [] cp), (7, .int .i64 (l.length : Int)), (8, .int .i64 (i : Int))]⟩) (fun i => σ) (fun i => l.length - i) (0) (⟨Nat.zero_le _, fun j x hj => absurd hj (by omega)⟩) ?_ rfl (fun i hi => ?_)
 ·refine ⟨rfl, rfl, rfl, ?_, rfl, trivial⟩
  rw [← mcells_length]; rfl
 obtain ⟨hi1, hi2⟩ := hi
 refine zw1 ?_
 refine AWp_seq ?_
 refine AWp_cond rfl (fun h1 => ?_) (fun h1 => ?_)
 ·(try rw [h1]); replace h1 := zcl h1
  have hlt : i < l.length := by omega
  obtain ⟨x, hx⟩ : ∃ x, l[i]? = some x := ⟨_, List.getElem?_eq_getElem hlt⟩
  refine AWp_skip ?_
  refine AWp_seq ?_
  refine AWp_block ?_
  refine zw2 ?_
  refine zu4 ?_
  rw [vcells_eq x.2]
  refine zg1 ?_
  refine zt rfl (op_callF rfl rfl rfl hfn hname hb (by have h0 := hf i x hx; rw [vcells_eq x.2] at h0; exact h0)) ?_
  refine zon ?_
  refine AWp_cond rfl (fun h2 => ?_) (fun h2 => ?_)
  ·(try rw [h2]); replace h2 := zcl h2
   refine zw2 ?_
   refine zrt ?_
   refine ResQ_10 rfl hcl ?_ ?_
   ·trivial
   ·exact ⟨rfl, _, rfl, .inl ⟨List.any_eq_true.2 ⟨x, List.mem_of_getElem? hx, h2⟩, by omega⟩⟩
  ·(try rw [h2]); replace h2 := zcl h2
   refine AWp_skip ?_
   refine AWp_regL ?_
   refine zv2 ?_
   refine ⟨i + 1, σ.length, ⟨by omega, fun j y hj hy => ?_⟩, by omega, Nat.le_refl _, ⟨rfl, rfl, rfl, rfl, rfl, trivial⟩, hcl, ?_, List.take_length⟩
   ·by_cases e : j = i
    ·subst e; rw [hx] at hy; cases hy; exact h2
    ·exact hi2 j y (by omega) hy
   ·simp [ltE, AV.lt, AV.ltL, hcp]
 ·(try rw [h1]); replace h1 := zcl h1
  refine AWp_exit ?_
  refine zw1 ?_
  refine zrt ?_
  refine ResQ_10 rfl hcl ?_ ⟨rfl, _, rfl, .inr ⟨?_, rfl⟩⟩
  trivial
  rw [List.any_eq_false]
  intro x hx
  obtain ⟨j, hj⟩ := List.getElem?_of_mem hx
  have := hi2 j x (by have := (List.getElem?_eq_some_iff.1 hj).1; omega) hj
  simp [this]

theorem ctfM_c (k : Nat) (fn : Go.Func) (hfn : Tryz.prog.funcs[k]? = some fn) (hname : (fn.name == "runtime.NumGoroutine") = false) (hb : fn.body.isNone = false) (cp : List AV) (hcp : ∀ n, AV.ltL n cp) (l : List (ByteArray × JV)) (p : (ByteArray × JV) → Bool) (σ : List AO) (hl : l.length ≤ 1000000000) (hf : ∀ (i : Nat) x, l[i]? = some x → ACalls Tryz.prog k (.agg (.str x.1 :: vcells x.2) :: cp) σ (Ret (.bool (p x)) σ)) : ACalls Tryz.prog 195 [.sl false 9 (mcells l), .func (.func k) [] cp] σ (Ret (.bool (l.any p)) σ) := by
 refine ACalls_body Tryz.func195 rfl Tryz.ntmps195 (res1 Tryz.results195) (Nat.le_of_ble_eq_true rfl) (fun hcl hal => ?_)
 refine zw1 ?_
 refine zu2 ?_
 refine ztR rfl (zcR rfl (ixfM_c k fn hfn hname hb cp hcp l p σ hl hf)) (fun v1_2 s1_2 hr => ?_) (fun v1_2 s1_2 hr => ?_)
 rotate_left
 ·obtain ⟨_, n, h, _⟩ := hr; cases h
 obtain ⟨rfl, n, h, hn⟩ := hr; cases h
 refine zv2 ?_
 refine zrt ?_
 refine ResQ_10 rfl hcl trivial (Ret_of ?_)
 congr 1
 rcases hn with ⟨h1, h2⟩ | ⟨h1, h2⟩
 ·rw [h1]; simp; exact h2
 ·rw [h1, h2]; rfl

theorem ixs_c (l : List ByteArray) (s : ByteArray) (f : Bool) (σ : List AO) (hl : l.length ≤ 1000000000) : ACalls Tryz.prog 218 [.sl f 1 (l.map fun x => [AV.str x]), .str s] σ (fun o σ' => σ' = σ ∧ ∃ n : Int, o = .ret (.int .i64 n) ∧ ((l.any (fun t => decide (s = t)) = true ∧ 0 ≤ n) ∨ (l.any (fun t => decide (s = t)) = false ∧ n = -1))) := by
 refine ACalls_body Tryz.func218 rfl Tryz.ntmps218 (res1 Tryz.results218) (Nat.le_of_ble_eq_true rfl) (fun hcl hal => ?_)
 refine zw1 ?_
 refine AWp_seq ?_
 refine zw3 ?_
 refine AWp_block ?_
 -- loop 0 LIVE 0:param 1:param 4:assign 7:call 8:move
 refine AWp_loop (ι := Nat) (fun i => i ≤ l.length ∧ ∀ (j : Nat) x, j < i → l[j]? = some x → ¬ s = x) (fun i => ⟨[], [(0, .sl f 1 (l.map fun x => [AV.str x])), (1, .str s), (7, .int .i64 (l.length : Int)), (8, .int .i64 (i : Int))]⟩) (fun i => σ) (fun i => l.length - i) (0) (⟨Nat.zero_le _, fun j x hj => absurd hj (by omega)⟩) ?_ rfl (fun i hi => ?_)
 ·exact ⟨rfl, rfl, rfl, congrArg (fun n : Nat => AV.int .i64 (n : Int)) (List.length_map _), rfl, trivial⟩
 obtain ⟨hi1, hi2⟩ := hi
 refine zw1 ?_
 refine AWp_seq ?_
 refine AWp_cond rfl (fun h1 => ?_) (fun h1 => ?_)
 ·(try rw [h1]); replace h1 := zcl h1
  obtain ⟨x, hx⟩ : ∃ x, l[i]? = some x := ⟨_, List.getElem?_eq_getElem (show i < l.length by omega)⟩
  have hxr : (l.map fun x => [AV.str x])[i]? = some [.str x] := by rw [List.getElem?_map, hx]; rfl
  refine AWp_skip ?_
  refine AWp_seq ?_
  refine AWp_block ?_
  refine zw2 ?_
  refine zu3 ?_
  refine zt rfl (op_indexAddr rfl Tryz.underlying48 Tryz.sizeOf9 rfl rfl (by omega) (hxr)) ?_
  refine zv2 ?_
  refine AWp_cond rfl (fun h2 => ?_) (fun h2 => ?_)
  ·(try rw [h2]); replace h2 := zcl h2
   refine zw2 ?_
   refine zrt ?_
   refine ResQ_10 rfl hcl trivial ⟨rfl, _, rfl, .inl ⟨List.any_eq_true.2 ⟨x, List.mem_of_getElem? hx, by simpa using h2⟩, by omega⟩⟩
  ·(try rw [h2]); replace h2 := zcl h2
   refine AWp_skip ?_
   refine AWp_regL ?_
   refine zv2 ?_
   refine ⟨i + 1, σ.length, ⟨by omega, fun j y hj hy => ?_⟩, by omega, Nat.le_refl _, ⟨rfl, rfl, rfl, rfl, rfl, trivial⟩, hcl, ?_, List.take_length⟩
   ·by_cases e : j = i
    ·subst e; rw [hx] at hy; cases hy; exact h2
    ·exact hi2 j y (by omega) hy
   ·simp [ltE, AV.lt, AV.ltL, ltLL_str]
 ·(try rw [h1]); replace h1 := zcl h1
  refine AWp_exit ?_
  refine zw1 ?_
  refine zrt ?_
  refine ResQ_10 rfl hcl trivial ⟨rfl, _, rfl, .inr ⟨?_, rfl⟩⟩
  rw [List.any_eq_false]
  intro x hx
  obtain ⟨j, hj⟩ := List.getElem?_of_mem hx
  have := hi2 j x (by have := (List.getElem?_eq_some_iff.1 hj).1; omega) hj
  simp [this]

theorem cts_c (l : List ByteArray) (s : ByteArray) (f : Bool) (σ : List AO) (hl : l.length ≤ 1000000000) : ACalls Tryz.prog 193 [.sl f 1 (l.map fun x => [AV.str x]), .str s] σ (Ret (.bool (l.any (fun t => decide (s = t)))) σ) := by
 refine ACalls_body Tryz.func193 rfl Tryz.ntmps193 (res1 Tryz.results193) (Nat.le_of_ble_eq_true rfl) (fun hcl hal => ?_)
 refine zw1 ?_
 refine zu2 ?_
 refine ztR rfl (zcR rfl (ixs_c l s f σ hl)) (fun v1_2 s1_2 hr => ?_) (fun v1_2 s1_2 hr => ?_)
 rotate_left
 ·obtain ⟨_, n, h, _⟩ := hr; cases h
 obtain ⟨rfl, n, h, hn⟩ := hr; cases h
 refine zv2 ?_
 refine zrt ?_
 refine ResQ_10 rfl hcl trivial (Ret_of ?_)
 congr 1
 rcases hn with ⟨h1, h2⟩ | ⟨h1, h2⟩
 ·rw [h1]; simp; exact h2
 ·rw [h1, h2]; rfl
end Lg
set_option maxRecDepth 20000
set_option maxHeartbeats 4000000
namespace Lg
open Go Go.Proofs Go.RowKit
variable [GLay] 
theorem pwhole_c (n : JNum) (σ : List AO) : ACalls Tryz.prog 151 [.agg (ncells n)] σ (Ret (.bool (decide (0 ≤ n.exp))) σ) := by
 refine ACalls_body Tryz.func151 rfl Tryz.ntmps151 (res1 Tryz.results151) (Nat.le_of_ble_eq_true rfl) (fun hcl hal => ?_)
 refine zw2 ?_
 refine zu2 ?_
 refine zt rfl (op_geq rfl rfl rfl) ?_
 refine zv1 ?_
 refine zrt ?_
 exact ResQ_1 rfl hcl trivial (Ret_of rfl)

theorem op_makeMapO {P : Program} {σ l : List AO} {e : Env} {o : Oper} {T : TypeId} (n : Nat) (hn : l.length = n) (ho : o.op = .makeMap T none) : AOp P (σ ++ l) e o (.mapv (σ.length + n)) (σ ++ (l ++ [.map []])) := by
  have := op_makeMap (P := P) (σ := σ ++ l) (e := e) ho
  rwa [List.length_append, hn, List.append_assoc] at this
theorem op_lookTx {P : Program} {σ l : List AO} {e : Env} {o : Oper} {T K E : TypeId} {a b : Operand} {k : ByteArray} {ks : List ByteArray} (j : Nat) (ho : o.op = .lookup T a b false) (hu : P.underlying T = some (.map K E)) (hK : P.underlying K = some .string) (hz : ∀ w, (zeroValue E).run P w = Result.ok (.bool false) w) (hx : opO e a = some (.mapv (σ.length + j))) (hy : opO e b = some (.str k))
    (hl : l[j]? = some (.map (smap (ks.map fun x => (x, AV.bool true))))) : AOp P (σ ++ l) e o (.bool (decide (k ∈ ks))) (σ ++ l) := by
  have h := op_lookupS (m := ks.map fun x => (x, AV.bool true)) (σ := σ ++ l) ho hu hK hz hx hy (by rw [get_own]; exact hl)
  rw [mget_map] at h
  by_cases hk : k ∈ ks
  · rw [if_pos hk] at h; rw [decide_eq_true hk]; exact h
  · rw [if_neg hk] at h; rw [decide_eq_false hk]; exact h
theorem op_updTx {P : Program} {σ l : List AO} {e : Env} {o : Oper} {T K E : TypeId} {a b c : Operand} {k : ByteArray} {ks : List ByteArray} (j : Nat) (ho : o.op = .mapUpdate T a b c) (hu : P.underlying T = some (.map K E)) (hK : P.underlying K = some .string) (hx : opO e a = some (.mapv (σ.length + j))) (hy : opO e b = some (.str k)) (hc : opO e c = some (.bool true))
    (hl : l[j]? = some (.map (smap (ks.map fun x => (x, AV.bool true))))) (hk : ¬ k ∈ ks) : AOp P (σ ++ l) e o .any (σ ++ l.set j (.map (smap ((ks ++ [k]).map fun x => (x, AV.bool true))))) := by
  have h := op_mapUpdS (m := ks.map fun x => (x, AV.bool true)) (σ := σ ++ l) ho hu hK hx hy hc (by rw [get_own]; exact hl) (by
    have := mget_map (.bool true) ks k
    rw [if_neg hk] at this
    simpa using this)
  rw [set_own] at h
  simpa using h
theorem AWp_freezeO {P : Program} {N : Nat} {Q : QA} {e : Env} {σ l : List AO} {c : Code} (t k : Nat) {cs : List AV} (hl : lookO e.l t = some (.ptr (σ.length + k) 0)) (hk : l[k]? = some (.box cs)) (h : AWp P N c (e.put (some t) (.pp cs)) (σ ++ l.set k .gone) Q) (ht : t < N) : AWp P N c e (σ ++ l) Q :=
  AWp_freeze t (σ.length + k) 0 hl (by rw [get_own]; exact hk) (by rw [set_own]; exact h) ht
theorem tx_lt (m : Nat) (ks : List ByteArray) : AV.ltL m (mflat (smap (ks.map fun x => (x, AV.bool true)))) := by
  induction ks with
  | nil => simp [smap, mflat, AV.ltL]
  | cons k r ih => simp [smap, mflat, AV.ltL, AV.lt]; simpa [smap] using ih
theorem tx_mem {l : List JV} {i : Nat} {x : JV} (hx : l[i]? = some x) (h : x.s ∈ (l.take i).map JV.s) (ht : txI l l.length) : False := by
  obtain ⟨y, hy, e⟩ := List.mem_map.1 h
  obtain ⟨b, hb⟩ := List.getElem?_of_mem hy
  rw [List.getElem?_take] at hb
  split at hb
  · rename_i hbi; exact (ht i x (List.getElem?_eq_some_iff.1 hx).1 hx).2 b y hbi hb e.symm
  · cases hb
theorem tx_step {l : List JV} {i : Nat} {x : JV} (hi : txI l i) (hx : l[i]? = some x) (h2 : x.kind = 3) (hnm : ¬ x.s ∈ (l.take i).map JV.s) : txI l (i + 1) := by
  intro a y ha hy
  by_cases e : a = i
  · subst e; rw [hx] at hy; cases hy
    exact ⟨h2, fun b z hb hz e => hnm (List.mem_map.2 ⟨z, List.mem_of_getElem? (i := b) (by rw [List.getElem?_take, if_pos hb]; exact hz), e.symm⟩)⟩
  · exact hi a y (by omega) hy
theorem sch_c (v : JV) (σ : List AO) : ACalls Tryz.prog 171 [.agg (vcells v)] σ (Ret (.bool (schB v)) σ) := by
 refine ACalls_body Tryz.func171 rfl Tryz.ntmps171 (res1 Tryz.results171) (Nat.le_of_ble_eq_true rfl) (fun hcl hal => ?_)
 rw [vcells_eq v]
 refine zw2 ?_
 refine zu4 ?_
 refine zsp 6 rfl (fun h1 => ?_) fun h1 => ?_
 ·rw [h1]; replace h1 := zcl h1
  refine zv5 ?_
  refine zrt ?_
  refine ResQ_1 rfl hcl trivial (Ret_of ?_)
  congr 1; simp [schB, *]
 ·rw [h1]; replace h1 := zcl h1
  refine zv5 ?_
  refine zrt ?_
  refine ResQ_1 rfl hcl trivial (Ret_of ?_)
  congr 1; simp [schB, *]

theorem some_c (v : JV) (σ : List AO) : ACalls Tryz.prog 167 [.agg (vcells v)] σ (Ret (.bool (kOK 2 v)) σ) := by
 refine ACalls_body Tryz.func167 rfl Tryz.ntmps167 (res1 Tryz.results167) (Nat.le_of_ble_eq_true rfl) (fun hcl hal => ?_)
 rw [vcells_eq v]
 refine zw2 ?_
 refine zu4 ?_
 refine zsp 6 rfl (fun h1 => ?_) fun h1 => ?_
 ·rw [h1]; replace h1 := zcl h1
  refine zv6 ?_
  refine zrt ?_
  refine ResQ_1 rfl hcl trivial (Ret_of ?_)
  congr 1; simp [kOK, lcells_length, *]
 ·rw [h1]; replace h1 := zcl h1
  refine zv6 ?_
  refine zrt ?_
  refine ResQ_1 rfl hcl trivial (Ret_of ?_)
  congr 1; simp [kOK, lcells_length, *]

theorem pwholeW_c (n : JNum) (σ : List AO) (h : rWhole n = decide (0 ≤ n.exp)) : ACalls Tryz.prog 151 [.agg (ncells n)] σ (Ret (.bool (rWhole n)) σ) := by
  rw [h]; exact pwhole_c n σ
theorem cnt_c (v : JV) (σ : List AO) (hw : v.kind = 2 → rWhole v.n = decide (0 ≤ v.n.exp)) : ACalls Tryz.prog 169 [.agg (vcells v)] σ (Ret (.bool (kOK 5 v)) σ) := by
 refine ACalls_body Tryz.func169 rfl Tryz.ntmps169 (res1 Tryz.results169) (Nat.le_of_ble_eq_true rfl) (fun hcl hal => ?_)
 rw [vcells_eq v]
 refine zw2 ?_
 refine zu4 ?_
 refine zsp 6 rfl (fun h1 => ?_) fun h1 => ?_
 ·rw [h1]; replace h1 := zcl h1
  refine zg2 ?_
  refine ztG rfl rfl (zc rfl (pwholeW_c v.n _ (hw h1))) ?_
  refine zg2 ?_
  refine zsp 11 rfl (fun h2 => ?_) fun h2 => ?_
  ·rw [h2]; replace h2 := zcl h2
   refine zv6 ?_
   refine zrt ?_
   refine ResQ_1 rfl hcl trivial (Ret_of ?_)
   congr 1; clear hw; simp [kOK, *]
  ·rw [h2]; replace h2 := zcl h2
   refine zv6 ?_
   refine zrt ?_
   refine ResQ_1 rfl hcl trivial (Ret_of ?_)
   congr 1; clear hw; simp [kOK, *]
 ·rw [h1]; replace h1 := zcl h1
  refine zg10 ?_
  refine zg1 ?_
  refine zon ?_
  refine zrt ?_
  refine ResQ_1 rfl hcl trivial (Ret_of ?_)
  congr 1; clear hw; simp [kOK, *]

theorem rul2_c (v : JV) (σ : List AO) : ACalls Tryz.prog 168 [.agg (vcells v)] σ (Ret (.bool true) σ) := by
 refine ACalls_body Tryz.func168 rfl Tryz.ntmps168 (res1 Tryz.results168) (Nat.le_of_ble_eq_true rfl) (fun hcl hal => ?_)
 rw [vcells_eq v]
 refine zw2 ?_
 refine zw1 ?_
 refine zrt ?_
 exact ResQ_1 rfl hcl trivial (Ret_of rfl)

theorem rul11_c (v : JV) (k : Int) (σ : List AO) : ACalls Tryz.prog 165 [.agg (vcells v), .pp [.int .i64 k]] σ (Ret (.bool (decide (v.kind = k))) σ) := by
 refine ACalls_body Tryz.func165 rfl Tryz.ntmps165 (res1 Tryz.results165) (Nat.le_of_ble_eq_true rfl) (fun hcl hal => ?_)
 rw [vcells_eq v]
 refine zw2 ?_
 refine zw5 ?_
 refine zrt ?_
 exact ResQ_1 rfl hcl trivial (Ret_of rfl)

theorem rul1_c (k : Int) (σ : List AO) : ACalls Tryz.prog 164 [.int .i64 k] σ (Ret (.func (.func 165) [] [.pp [.int .i64 k]]) σ) := by
 refine ACalls_body Tryz.func164 rfl Tryz.ntmps164 (res1 Tryz.results164) (Nat.le_of_ble_eq_true rfl) (fun hcl hal => ?_)
 refine zw2 ?_
 refine AWp_seq ?_
 refine AWp_freezeO 1 0 rfl rfl ?_ (by decide)
 refine AWp_regL ?_
 refine zv2 ?_
 refine zrt ?_
 exact ResQ_1 rfl hcl (show AV.lt σ.length (.func _ [] [.pp [.int .i64 k]]) by simp [AV.lt, AV.ltL]) (Ret_of rfl)

theorem txt_c (v : JV) (σ : List AO) (hl : v.l.length ≤ 1000000000) : ACalls Tryz.prog 170 [.agg (vcells v)] σ (Ret (.bool (txB v)) σ) := by
 refine ACalls_body Tryz.func170 rfl Tryz.ntmps170 (res1 Tryz.results170) (Nat.le_of_ble_eq_true rfl) (fun hcl hal => ?_)
 rw [vcells_eq v]
 refine zw2 ?_
 refine zsr ?_
 refine zt rfl (op_makeMapO 1 rfl rfl) ?_
 refine zv1 ?_
 refine AWp_seq ?_
 refine zw4 ?_
 refine AWp_block ?_
 -- loop 0 LIVE 1:box 2:assign 3:assign 8:load 9:call 10:move
 refine AWp_loop (ι := Nat) (fun i => i ≤ v.l.length ∧ txI v.l i) (fun i => ⟨[], [(1, .ptr (σ.length + 0) 0), (3, .mapv (σ.length + 1)), (8, .sl false 8 (lcells v.l)), (9, .int .i64 (v.l.length : Int)), (10, .int .i64 (i : Int))]⟩) (fun i => σ ++ [.box [.int .i64 v.kind, .bool v.b, .bool v.n.neg, .str v.n.digits, .int .i64 v.n.exp, .str v.s, .sl false 8 (lcells v.l), .sl false 9 (mcells v.m)], .map (smap (((v.l.take i).map JV.s).map fun x => (x, AV.bool true)))]) (fun i => v.l.length - i) (0) (⟨Nat.zero_le _, fun a x h => absurd h (by omega)⟩) ?_ rfl (fun i hi => ?_)
 ·refine ⟨rfl, rfl, rfl, rfl, ?_, rfl, trivial⟩
  rw [← lcells_length]; rfl
 obtain ⟨hi1, hi2⟩ := hi
 refine zw1 ?_
 refine AWp_seq ?_
 refine AWp_cond rfl (fun h1 => ?_) (fun h1 => ?_)
 ·(try rw [h1]); replace h1 := zcl h1
  obtain ⟨x, hx⟩ : ∃ x, v.l[i]? = some x := ⟨_, List.getElem?_eq_getElem (show i < v.l.length by omega)⟩
  refine AWp_skip ?_
  refine AWp_seq ?_
  refine AWp_block ?_
  refine zu1 ?_
  rw [vcells_eq x]
  refine zv3 ?_
  refine AWp_seq ?_
  refine zu4 ?_
  refine zsp 17 rfl (fun h2 => ?_) fun h2 => ?_
  ·rw [h2]; replace h2 := zcl h2
   refine zv5 ?_
   refine AWp_condT rfl ?_
   refine zw1 ?_
   refine zrt ?_
   refine ResQ_1 rfl hcl trivial (Ret_of ?_)
   congr 1; unfold txB; rw [pb_f (fun h => h2 (h i x (by omega) hx).1)]; rfl
  ·rw [h2]; replace h2 := zcl h2
   refine zg3 ?_
   refine ztG rfl rfl (op_lookTx 1 rfl Tryz.underlying243 Tryz.underlying9 Tryz.zeroValue4 rfl rfl rfl) ?_
   refine zv1 ?_
   refine AWp_cond rfl (fun h3 => ?_) (fun h3 => ?_)
   ·(try rw [h3]); replace h3 := zcl h3
    refine zw1 ?_
    refine zrt ?_
    refine ResQ_1 rfl hcl trivial (Ret_of ?_)
    congr 1; unfold txB; rw [pb_f (fun h => tx_mem hx h3 h)]; rfl
   ·(try rw [h3]); replace h3 := zcl h3
    have hnm := h3
    refine AWp_skip ?_
    refine AWp_regL ?_
    refine zg3 ?_
    refine ztN rfl rfl (op_updTx 1 rfl Tryz.underlying243 Tryz.underlying9 rfl rfl rfl rfl hnm) ?_
    refine zon ?_
    refine AWp_regL ?_
    refine zv2 ?_
    refine ⟨i + 1, σ.length + 2, ⟨by omega, ?_⟩, by omega, by simp, ⟨rfl, rfl, rfl, rfl, rfl, rfl, trivial⟩, closed_own 2 hcl ?_, ?_, ?_⟩
    ·exact tx_step hi2 hx h2 hnm
    ·show ownLt (σ.length + 2) [.box [.int .i64 v.kind, .bool v.b, .bool v.n.neg, .str v.n.digits, .int .i64 v.n.exp, .str v.s, .sl false 8 (lcells v.l), .sl false 9 (mcells v.m)], .map (smap (((List.take i v.l).map JV.s ++ [x.s]).map fun x => (x, AV.bool true)))]
     exact ⟨by simp [AO.cells, AV.ltL, AV.lt], tx_lt _ _, trivial⟩
    ·simp [ltE, AV.lt, AV.ltL]
    ·refine (take_own 2).trans ?_
     have e : (v.l.take (i + 1)).map JV.s = (v.l.take i).map JV.s ++ [x.s] := by rw [List.take_add_one, hx]; simp
     rw [e]; rfl
 ·(try rw [h1]); replace h1 := zcl h1
  refine AWp_exit ?_
  refine zw4 ?_
  refine zrt ?_
  refine ResQ_1 rfl hcl trivial (Ret_of ?_)
  congr 1; unfold txB; rw [pb_t (show txI v.l v.l.length by rw [← show i = v.l.length by omega]; exact hi2)]; rfl

theorem typ1_c (v : JV) (σ : List AO) : ACalls Tryz.prog 192 [.agg (vcells v)] σ (Ret (.bool (tyB v)) σ) := by
 refine ACalls_body Tryz.func192 rfl Tryz.ntmps192 (res1 Tryz.results192) (Nat.le_of_ble_eq_true rfl) (fun hcl hal => ?_)
 rw [vcells_eq v]
 refine zw2 ?_
 refine zu4 ?_
 refine zsp 6 rfl (fun h1 => ?_) fun h1 => ?_
 ·rw [h1]; replace h1 := zcl h1
  refine ztG rfl rfl (op_buildSlice [[_], [_], [_], [_], [_], [_], [_]] rfl Tryz.underlying48 Tryz.sizeOf9 Tryz.zeroValue9 rfl (by decide) (by decide) rfl rfl rfl rfl rfl) ?_
  refine zg2 ?_
  refine ztG rfl rfl (zc rfl (cts_c tyL v.s true _ (by decide))) ?_
  refine zv2 ?_
  refine zrt ?_
  refine ResQ_1 rfl hcl trivial (Ret_of ?_)
  congr 1; simp [tyB, *]
 ·rw [h1]; replace h1 := zcl h1
  refine zv6 ?_
  refine zrt ?_
  refine ResQ_1 rfl hcl trivial (Ret_of ?_)
  congr 1; simp [tyB, *]

theorem typ2_c (v : JV) (σ : List AO) : ACalls Tryz.prog 194 (.agg (vcells v) :: [.pp [.func (.func 192) [] []]]) σ (Ret (.bool (!tyB v)) σ) := by
 refine ACalls_body Tryz.func194 rfl Tryz.ntmps194 (res1 Tryz.results194) (Nat.le_of_ble_eq_true rfl) (fun hcl hal => ?_)
 rw [vcells_eq v]
 refine zw2 ?_
 refine zu2 ?_
 refine zt rfl (op_callF rfl rfl rfl (by exact Tryz.func192) rfl rfl (vcells_eq v ▸ typ1_c v _)) ?_
 refine zv2 ?_
 refine zrt ?_
 exact ResQ_1 rfl hcl trivial (Ret_of rfl)

theorem typ_c (v : JV) (σ : List AO) (hl : v.l.length ≤ 1000000000) : ACalls Tryz.prog 166 [.agg (vcells v)] σ (Ret (.bool (kOK 1 v)) σ) := by
 refine ACalls_body Tryz.func166 rfl Tryz.ntmps166 (res1 Tryz.results166) (Nat.le_of_ble_eq_true rfl) (fun hcl hal => ?_)
 rw [vcells_eq v]
 refine zw2 ?_
 refine zw2 ?_
 refine AWp_seq ?_
 refine AWp_freezeO 3 1 rfl rfl ?_ (by decide)
 refine AWp_regL ?_
 refine zg2 ?_
 refine zt rfl (op_callF rfl rfl rfl (by exact Tryz.func192) rfl rfl (vcells_eq v ▸ typ1_c v _)) ?_
 refine zg1 ?_
 refine zsp 7 rfl (fun h1 => ?_) fun h1 => ?_
 ·rw [h1]; replace h1 := zcl h1
  refine zg10 ?_
  refine zg7 ?_
  refine zon ?_
  refine zrt ?_
  refine ResQ_1 rfl hcl trivial (Ret_of ?_)
  congr 1; (try simp only [lcells_length] at *); simp [kOK, List.not_any_eq_all_not, *] <;> (intros; omega)
 ·rw [h1]; replace h1 := zcl h1
  refine zg1 ?_
  refine ztG rfl rfl (zc rfl (vcells_eq v ▸ txt_c v _ hl)) ?_
  refine zg1 ?_
  refine zsp 10 rfl (fun h2 => ?_) fun h2 => ?_
  ·rw [h2]; replace h2 := zcl h2
   refine zg6 ?_
   refine zsp 16 rfl (fun h3 => ?_) fun h3 => ?_
   ·rw [h3]; replace h3 := zcl h3
    refine zg3 ?_
    refine ztG rfl rfl (zc rfl (ctfV_c 194 _ Tryz.func194 rfl rfl [.pp [.func (.func 192) [] []]] (by simp [AV.ltL, AV.lt]) v.l (fun x => !tyB x) _ hl (fun i x hx => typ2_c x _))) ?_
    refine zv4 ?_
    refine zrt ?_
    refine ResQ_1 rfl hcl trivial (Ret_of ?_)
    congr 1; (try simp only [lcells_length] at *); simp [kOK, List.not_any_eq_all_not, *] <;> (intros; omega)
   ·rw [h3]; replace h3 := zcl h3
    refine zv8 ?_
    refine zrt ?_
    refine ResQ_1 rfl hcl trivial (Ret_of ?_)
    congr 1; (try simp only [lcells_length] at *); simp [kOK, List.not_any_eq_all_not, *] <;> (intros; omega)
  ·rw [h2]; replace h2 := zcl h2
   refine zg10 ?_
   refine zg4 ?_
   refine zon ?_
   refine zrt ?_
   refine ResQ_1 rfl hcl trivial (Ret_of ?_)
   congr 1; (try simp only [lcells_length] at *); simp [kOK, List.not_any_eq_all_not, *] <;> (intros; omega)

theorem schs1_c (v : JV) (σ : List AO) : ACalls Tryz.prog 197 [.agg (vcells v)] σ (Ret (.bool (!schB v)) σ) := by
 refine ACalls_body Tryz.func197 rfl Tryz.ntmps197 (res1 Tryz.results197) (Nat.le_of_ble_eq_true rfl) (fun hcl hal => ?_)
 rw [vcells_eq v]
 refine zw2 ?_
 refine zu1 ?_
 refine zt rfl (zc rfl (vcells_eq v ▸ sch_c v _)) ?_
 refine zv2 ?_
 refine zrt ?_
 exact ResQ_1 rfl hcl trivial (Ret_of rfl)

theorem schs_c (v : JV) (σ : List AO) (hl : v.l.length ≤ 1000000000) : ACalls Tryz.prog 173 [.agg (vcells v)] σ (Ret (.bool (kOK 10 v)) σ) := by
 refine ACalls_body Tryz.func173 rfl Tryz.ntmps173 (res1 Tryz.results173) (Nat.le_of_ble_eq_true rfl) (fun hcl hal => ?_)
 rw [vcells_eq v]
 refine zw2 ?_
 refine zu1 ?_
 refine zt rfl (zc rfl (vcells_eq v ▸ some_c v _)) ?_
 refine zg1 ?_
 refine zsp 5 rfl (fun h1 => ?_) fun h1 => ?_
 ·rw [h1]; replace h1 := zcl h1
  refine zg2 ?_
  refine ztG rfl rfl (zc rfl (ctfV_c 197 _ Tryz.func197 rfl rfl [] (by simp [AV.ltL]) v.l (fun x => !schB x) _ hl (fun i x hx => schs1_c x _))) ?_
  refine zv3 ?_
  refine zrt ?_
  refine ResQ_1 rfl hcl trivial (Ret_of ?_)
  congr 1; (try simp only [kOK] at *); simp [List.not_any_eq_all_not, *]
 ·rw [h1]; replace h1 := zcl h1
  refine zv6 ?_
  refine zrt ?_
  refine ResQ_1 rfl hcl trivial (Ret_of ?_)
  congr 1; (try simp only [kOK] at *); simp [List.not_any_eq_all_not, *]

theorem mem1_c (q : ByteArray × JV) (σ : List AO) : ACalls Tryz.prog 196 [.agg (.str q.1 :: vcells q.2)] σ (Ret (.bool (!schB q.2)) σ) := by
 refine ACalls_body Tryz.func196 rfl Tryz.ntmps196 (res1 Tryz.results196) (Nat.le_of_ble_eq_true rfl) (fun hcl hal => ?_)
 rw [vcells_eq q.2]
 refine zw2 ?_
 refine zu2 ?_
 refine zt rfl (zc rfl (vcells_eq q.2 ▸ sch_c q.2 _)) ?_
 refine zv2 ?_
 refine zrt ?_
 exact ResQ_1 rfl hcl trivial (Ret_of rfl)

theorem mem_c (v : JV) (σ : List AO) (hl : v.m.length ≤ 1000000000) : ACalls Tryz.prog 172 [.agg (vcells v)] σ (Ret (.bool (kOK 9 v)) σ) := by
 refine ACalls_body Tryz.func172 rfl Tryz.ntmps172 (res1 Tryz.results172) (Nat.le_of_ble_eq_true rfl) (fun hcl hal => ?_)
 rw [vcells_eq v]
 refine zw2 ?_
 refine zu4 ?_
 refine zsp 6 rfl (fun h1 => ?_) fun h1 => ?_
 ·rw [h1]; replace h1 := zcl h1
  refine zg2 ?_
  refine ztG rfl rfl (zc rfl (ctfM_c 196 _ Tryz.func196 rfl rfl [] (by simp [AV.ltL]) v.m (fun q => !schB q.2) _ hl (fun i q hq => mem1_c q _))) ?_
  refine zv3 ?_
  refine zrt ?_
  refine ResQ_1 rfl hcl trivial (Ret_of ?_)
  congr 1; simp [kOK, List.not_any_eq_all_not, *]
 ·rw [h1]; replace h1 := zcl h1
  refine zv6 ?_
  refine zrt ?_
  refine ResQ_1 rfl hcl trivial (Ret_of ?_)
  congr 1; simp [kOK, List.not_any_eq_all_not, *]
end Lg
set_option maxRecDepth 20000
set_option maxHeartbeats 4000000
namespace Lg
open Go Go.Proofs Go.RowKit
variable [GLay] 
theorem run_eqF {P : Program} {T : TypeId} {ps rs : Array TypeId} {va : Bool} (w : World) (hu : P.underlying T = some (.func ps rs va)) (c : Value) (b : Bool) (hc : (c = .nilFunc ∧ b = true) ∨ (b = false ∧ ∃ f x y, c = .func f x y)) : (binOp .eql T c .nilFunc).run P w = .ok (.bool b) w := by
  have h : ∀ d, (Op.equalIn (d + 1) T c .nilFunc).run P w = .ok b w := fun d => by
    rcases hc with ⟨rfl, rfl⟩ | ⟨rfl, f, x, y, rfl⟩ <;> simp [Op.equalIn, run_underlying hu]
  have h' : (Op.equal T c .nilFunc).run P w = .ok b w := h 9999
  rcases hc with ⟨rfl, rfl⟩ | ⟨rfl, f, x, y, rfl⟩ <;> (simp only [binOp]; simp [h'])
theorem eqGuard_F {P : Program} {T : TypeId} (w : World) (x y : Operand) (c : Value) (hc : c = .nilFunc ∨ ∃ f x y, c = .func f x y) : (eqGuard .eql T x y c .nilFunc).run P w = .ok () w := by
  rcases hc with rfl | ⟨f, u, v, rfl⟩ <;> simp [eqGuard]
theorem op_eqFN {P : Program} {σ : List AO} {e : Env} {o : Oper} {T T' : TypeId} {x : Operand} {ps rs : Array TypeId} {va : Bool} {f : Fn} {u v : List AV} (ho : o.op = .binOp .eql T x (.const .nilFunc) T') (hu : P.underlying T = some (.func ps rs va)) (hx : opO e x = some (.func f u v)) : AOp P σ e o (.bool false) σ :=
  op_bin ho (opO_eq hx) rfl fun s cx cy _ _ h1 h2 => by
    obtain ⟨vf, vc, rfl, _⟩ := h1.inv_func
    have e2 : cy = .nilFunc := h2.inv_nilf
    subst e2
    exact ⟨_, run_eqF s.w hu _ false (.inr ⟨rfl, _, _, _, rfl⟩), .bool _, eqGuard_F s.w _ _ _ (.inr ⟨_, _, _, rfl⟩)⟩
theorem op_eqFNil {P : Program} {σ : List AO} {e : Env} {o : Oper} {T T' : TypeId} {x : Operand} {ps rs : Array TypeId} {va : Bool} (ho : o.op = .binOp .eql T x (.const .nilFunc) T') (hu : P.underlying T = some (.func ps rs va)) (hx : opO e x = some .nilf) : AOp P σ e o (.bool true) σ :=
  op_bin ho (opO_eq hx) rfl fun s cx cy _ _ h1 h2 => by
    have e1 := h1.inv_nilf
    have e2 : cy = .nilFunc := h2.inv_nilf
    subst e1; subst e2
    exact ⟨_, run_eqF s.w hu _ true (.inl ⟨rfl, rfl⟩), .bool _, eqGuard_F s.w _ _ _ (.inl rfl)⟩
def ruleV : Nat → AV
  | 1 => .func (.func 166) [] []
  | 2 => .func (.func 167) [] []
  | 3 => .func (.func 168) [] []
  | 4 => .func (.func 165) [] [.pp [.int .i64 2]]
  | 5 => .func (.func 169) [] []
  | 6 => .func (.func 165) [] [.pp [.int .i64 1]]
  | 7 => .func (.func 170) [] []
  | 8 => .func (.func 171) [] []
  | 9 => .func (.func 172) [] []
  | 10 => .func (.func 173) [] []
  | 11 => .func (.func 165) [] [.pp [.int .i64 3]]
  | _ => .nilf
theorem ruleV_call (c : Nat) (v : JV) (hc : 1 ≤ c ∧ c ≤ 11) (hl : v.l.length ≤ 1000000000) (hm : v.m.length ≤ 1000000000) (hw : v.kind = 2 → rWhole v.n = decide (0 ≤ v.n.exp)) : ∃ k fn cp, ruleV c = .func (.func k) [] cp ∧ Tryz.prog.funcs[k]? = some fn ∧ (fn.name == "runtime.NumGoroutine") = false ∧ fn.body.isNone = false ∧ ∀ σ, ACalls Tryz.prog k (.agg (vcells v) :: cp) σ (Ret (.bool (kOK c v)) σ) := by
  obtain ⟨h1, h2⟩ := hc
  match c, h1, h2 with
  | 1, _, _ => exact ⟨_, _, [], rfl, Tryz.func166, rfl, rfl, fun σ => typ_c v σ hl⟩
  | 2, _, _ => exact ⟨_, _, [], rfl, Tryz.func167, rfl, rfl, fun σ => some_c v σ⟩
  | 3, _, _ => exact ⟨_, _, [], rfl, Tryz.func168, rfl, rfl, fun σ => rul2_c v σ⟩
  | 4, _, _ => exact ⟨_, _, _, rfl, Tryz.func165, rfl, rfl, fun σ => rul11_c v 2 σ⟩
  | 5, _, _ => exact ⟨_, _, [], rfl, Tryz.func169, rfl, rfl, fun σ => cnt_c v σ hw⟩
  | 6, _, _ => exact ⟨_, _, _, rfl, Tryz.func165, rfl, rfl, fun σ => rul11_c v 1 σ⟩
  | 7, _, _ => exact ⟨_, _, [], rfl, Tryz.func170, rfl, rfl, fun σ => txt_c v σ hl⟩
  | 8, _, _ => exact ⟨_, _, [], rfl, Tryz.func171, rfl, rfl, fun σ => sch_c v σ⟩
  | 9, _, _ => exact ⟨_, _, [], rfl, Tryz.func172, rfl, rfl, fun σ => mem_c v σ hm⟩
  | 10, _, _ => exact ⟨_, _, [], rfl, Tryz.func173, rfl, rfl, fun σ => schs_c v σ hl⟩
  | 11, _, _ => exact ⟨_, _, _, rfl, Tryz.func165, rfl, rfl, fun σ => rul11_c v 3 σ⟩
theorem rule_c (name : ByteArray) (σ : List AO) : ACalls Tryz.prog 146 [.str name] σ (Ret (ruleV (rk name)) σ) := by
 refine ACalls_body Tryz.func146 rfl Tryz.ntmps146 (res1 Tryz.results146) (Nat.le_of_ble_eq_true rfl) (fun hcl hal => ?_)
 refine zw1 ?_
 refine zw1 ?_
 refine AWp_seq ?_
 refine zw1 ?_
 refine AWp_block ?_
 refine zw2 ?_
 refine AWp_cond rfl (fun h1 => ?_) (fun h1 => ?_)
 ·(try rw [h1]); replace h1 := zcl h1
  have hk : rk name = 1 := by rw [h1]; decide +kernel
  refine zw1 ?_
  refine zrt ?_
  rw [hk]; exact ResQ_10 rfl hcl (by simp [AV.lt, AV.ltL]) (Ret_of rfl)
 ·(try rw [h1]); replace h1 := zcl h1
  refine zw2 ?_
  refine AWp_cond rfl (fun h2 => ?_) (fun h2 => ?_)
  ·(try rw [h2]); replace h2 := zcl h2
   have hk : rk name = 2 := by rw [h2]; decide +kernel
   refine zw1 ?_
   refine zrt ?_
   rw [hk]; exact ResQ_10 rfl hcl (by simp [AV.lt, AV.ltL]) (Ret_of rfl)
  ·(try rw [h2]); replace h2 := zcl h2
   refine zw2 ?_
   refine AWp_cond rfl (fun h3 => ?_) (fun h3 => ?_)
   ·(try rw [h3]); replace h3 := zcl h3
    have hk : rk name = 3 := by rw [h3]; decide +kernel
    refine zw1 ?_
    refine zrt ?_
    rw [hk]; exact ResQ_10 rfl hcl (by simp [AV.lt, AV.ltL]) (Ret_of rfl)
   ·(try rw [h3]); replace h3 := zcl h3
    refine AWp_seq ?_
    refine zw2 ?_
    refine AWp_cond rfl (fun h4 => ?_) (fun h4 => ?_)
    ·(try rw [h4]); replace h4 := zcl h4
     have hk : rk name = 4 := by rw [h4]; decide +kernel
     refine AWp_skip ?_
     refine AWp_condT rfl ?_
     refine zu1 ?_
     refine zt rfl (op_callF rfl rfl rfl (by exact Tryz.func164) rfl rfl (rul1_c 2 _)) ?_
     refine zv1 ?_
     refine zrt ?_
     rw [hk]; exact ResQ_10 rfl hcl (by simp [AV.lt, AV.ltL]) (Ret_of rfl)
    ·(try rw [h4]); replace h4 := zcl h4
     refine AWp_regL ?_
     refine zv2 ?_
     refine AWp_cond rfl (fun h5 => ?_) (fun h5 => ?_)
     ·(try rw [h5]); replace h5 := zcl h5
      have hk : rk name = 4 := by rw [h5]; decide +kernel
      refine zu1 ?_
      refine zt rfl (op_callF rfl rfl rfl (by exact Tryz.func164) rfl rfl (rul1_c 2 _)) ?_
      refine zv1 ?_
      refine zrt ?_
      rw [hk]; exact ResQ_10 rfl hcl (by simp [AV.lt, AV.ltL]) (Ret_of rfl)
     ·(try rw [h5]); replace h5 := zcl h5
      refine AWp_seq ?_
      refine zw2 ?_
      refine AWp_cond rfl (fun h6 => ?_) (fun h6 => ?_)
      ·(try rw [h6]); replace h6 := zcl h6
       have hk : rk name = 5 := by rw [h6]; decide +kernel
       refine AWp_skip ?_
       refine AWp_condT rfl ?_
       refine zw1 ?_
       refine zrt ?_
       rw [hk]; exact ResQ_10 rfl hcl (by simp [AV.lt, AV.ltL]) (Ret_of rfl)
      ·(try rw [h6]); replace h6 := zcl h6
       refine zw2 ?_
       refine AWp_cond rfl (fun h7 => ?_) (fun h7 => ?_)
       ·(try rw [h7]); replace h7 := zcl h7
        have hk : rk name = 5 := by rw [h7]; decide +kernel
        refine AWp_skip ?_
        refine AWp_condT rfl ?_
        refine zw1 ?_
        refine zrt ?_
        rw [hk]; exact ResQ_10 rfl hcl (by simp [AV.lt, AV.ltL]) (Ret_of rfl)
       ·(try rw [h7]); replace h7 := zcl h7
        refine zw2 ?_
        refine AWp_cond rfl (fun h8 => ?_) (fun h8 => ?_)
        ·(try rw [h8]); replace h8 := zcl h8
         have hk : rk name = 5 := by rw [h8]; decide +kernel
         refine AWp_skip ?_
         refine AWp_condT rfl ?_
         refine zw1 ?_
         refine zrt ?_
         rw [hk]; exact ResQ_10 rfl hcl (by simp [AV.lt, AV.ltL]) (Ret_of rfl)
        ·(try rw [h8]); replace h8 := zcl h8
         refine AWp_regL ?_
         refine zv2 ?_
         refine AWp_cond rfl (fun h9 => ?_) (fun h9 => ?_)
         ·(try rw [h9]); replace h9 := zcl h9
          have hk : rk name = 5 := by rw [h9]; decide +kernel
          refine zw1 ?_
          refine zrt ?_
          rw [hk]; exact ResQ_10 rfl hcl (by simp [AV.lt, AV.ltL]) (Ret_of rfl)
         ·(try rw [h9]); replace h9 := zcl h9
          refine zw2 ?_
          refine AWp_cond rfl (fun h10 => ?_) (fun h10 => ?_)
          ·(try rw [h10]); replace h10 := zcl h10
           have hk : rk name = 6 := by rw [h10]; decide +kernel
           refine zu1 ?_
           refine zt rfl (op_callF rfl rfl rfl (by exact Tryz.func164) rfl rfl (rul1_c 1 _)) ?_
           refine zv1 ?_
           refine zrt ?_
           rw [hk]; exact ResQ_10 rfl hcl (by simp [AV.lt, AV.ltL]) (Ret_of rfl)
          ·(try rw [h10]); replace h10 := zcl h10
           refine zw2 ?_
           refine AWp_cond rfl (fun h11 => ?_) (fun h11 => ?_)
           ·(try rw [h11]); replace h11 := zcl h11
            have hk : rk name = 7 := by rw [h11]; decide +kernel
            refine zw1 ?_
            refine zrt ?_
            rw [hk]; exact ResQ_10 rfl hcl (by simp [AV.lt, AV.ltL]) (Ret_of rfl)
           ·(try rw [h11]); replace h11 := zcl h11
            refine AWp_seq ?_
            refine zw2 ?_
            refine AWp_cond rfl (fun h12 => ?_) (fun h12 => ?_)
            ·(try rw [h12]); replace h12 := zcl h12
             have hk : rk name = 8 := by rw [h12]; decide +kernel
             refine AWp_skip ?_
             refine AWp_condT rfl ?_
             refine zw1 ?_
             refine zrt ?_
             rw [hk]; exact ResQ_10 rfl hcl (by simp [AV.lt, AV.ltL]) (Ret_of rfl)
            ·(try rw [h12]); replace h12 := zcl h12
             refine zw2 ?_
             refine AWp_cond rfl (fun h13 => ?_) (fun h13 => ?_)
             ·(try rw [h13]); replace h13 := zcl h13
              have hk : rk name = 8 := by rw [h13]; decide +kernel
              refine AWp_skip ?_
              refine AWp_condT rfl ?_
              refine zw1 ?_
              refine zrt ?_
              rw [hk]; exact ResQ_10 rfl hcl (by simp [AV.lt, AV.ltL]) (Ret_of rfl)
             ·(try rw [h13]); replace h13 := zcl h13
              refine AWp_regL ?_
              refine zv2 ?_
              refine AWp_cond rfl (fun h14 => ?_) (fun h14 => ?_)
              ·(try rw [h14]); replace h14 := zcl h14
               have hk : rk name = 8 := by rw [h14]; decide +kernel
               refine zw1 ?_
               refine zrt ?_
               rw [hk]; exact ResQ_10 rfl hcl (by simp [AV.lt, AV.ltL]) (Ret_of rfl)
              ·(try rw [h14]); replace h14 := zcl h14
               refine AWp_seq ?_
               refine zw2 ?_
               refine AWp_cond rfl (fun h15 => ?_) (fun h15 => ?_)
               ·(try rw [h15]); replace h15 := zcl h15
                have hk : rk name = 9 := by rw [h15]; decide +kernel
                refine AWp_skip ?_
                refine AWp_condT rfl ?_
                refine zw1 ?_
                refine zrt ?_
                rw [hk]; exact ResQ_10 rfl hcl (by simp [AV.lt, AV.ltL]) (Ret_of rfl)
               ·(try rw [h15]); replace h15 := zcl h15
                refine AWp_regL ?_
                refine zv2 ?_
                refine AWp_cond rfl (fun h16 => ?_) (fun h16 => ?_)
                ·(try rw [h16]); replace h16 := zcl h16
                 have hk : rk name = 9 := by rw [h16]; decide +kernel
                 refine zw1 ?_
                 refine zrt ?_
                 rw [hk]; exact ResQ_10 rfl hcl (by simp [AV.lt, AV.ltL]) (Ret_of rfl)
                ·(try rw [h16]); replace h16 := zcl h16
                 refine AWp_seq ?_
                 refine zw2 ?_
                 refine AWp_cond rfl (fun h17 => ?_) (fun h17 => ?_)
                 ·(try rw [h17]); replace h17 := zcl h17
                  have hk : rk name = 10 := by rw [h17]; decide +kernel
                  refine AWp_skip ?_
                  refine AWp_condT rfl ?_
                  refine zw1 ?_
                  refine zrt ?_
                  rw [hk]; exact ResQ_10 rfl hcl (by simp [AV.lt, AV.ltL]) (Ret_of rfl)
                 ·(try rw [h17]); replace h17 := zcl h17
                  refine zw2 ?_
                  refine AWp_cond rfl (fun h18 => ?_) (fun h18 => ?_)
                  ·(try rw [h18]); replace h18 := zcl h18
                   have hk : rk name = 10 := by rw [h18]; decide +kernel
                   refine AWp_skip ?_
                   refine AWp_condT rfl ?_
                   refine zw1 ?_
                   refine zrt ?_
                   rw [hk]; exact ResQ_10 rfl hcl (by simp [AV.lt, AV.ltL]) (Ret_of rfl)
                  ·(try rw [h18]); replace h18 := zcl h18
                   refine AWp_regL ?_
                   refine zv2 ?_
                   refine AWp_cond rfl (fun h19 => ?_) (fun h19 => ?_)
                   ·(try rw [h19]); replace h19 := zcl h19
                    have hk : rk name = 10 := by rw [h19]; decide +kernel
                    refine zw1 ?_
                    refine zrt ?_
                    rw [hk]; exact ResQ_10 rfl hcl (by simp [AV.lt, AV.ltL]) (Ret_of rfl)
                   ·(try rw [h19]); replace h19 := zcl h19
                    refine zw2 ?_
                    refine AWp_cond rfl (fun h20 => ?_) (fun h20 => ?_)
                    ·(try rw [h20]); replace h20 := zcl h20
                     have hk : rk name = 11 := by rw [h20]; decide +kernel
                     refine zu1 ?_
                     refine zt rfl (op_callF rfl rfl rfl (by exact Tryz.func164) rfl rfl (rul1_c 3 _)) ?_
                     refine zv1 ?_
                     refine zrt ?_
                     rw [hk]; exact ResQ_10 rfl hcl (by simp [AV.lt, AV.ltL]) (Ret_of rfl)
                    ·(try rw [h20]); replace h20 := zcl h20
                     refine AWp_skip ?_
                     refine zw1 ?_
                     refine zrt ?_
                     have hk : rk name = 0 := by simp [rk, kwL, *]
                     rw [hk]; exact ResQ_10 rfl hcl (by simp [AV.lt, AV.ltL]) (Ret_of rfl)
end Lg
set_option maxRecDepth 20000
set_option maxHeartbeats 4000000
namespace Lg
open Go Go.Proofs Go.RowKit
variable [GLay] 
def cerv (k : Int) : AV := if k = 0 then .nili else .iface 95 (.int .i64 k)
theorem op_eqRule {P : Program} {σ : List AO} {e : Env} {o : Oper} {T T' : TypeId} {x : Operand} {ps rs : Array TypeId} {va : Bool} {c : Nat} (hc : c ≤ 11) (ho : o.op = .binOp .eql T x (.const .nilFunc) T') (hu : P.underlying T = some (.func ps rs va)) (hx : opO e x = some (ruleV c)) : AOp P σ e o (.bool (decide (c = 0))) σ := by
  match c, hc with
  | 0, _ => exact op_eqFNil ho hu hx
  | 1, _ => exact op_eqFN ho hu hx
  | 2, _ => exact op_eqFN ho hu hx
  | 3, _ => exact op_eqFN ho hu hx
  | 4, _ => exact op_eqFN ho hu hx
  | 5, _ => exact op_eqFN ho hu hx
  | 6, _ => exact op_eqFN ho hu hx
  | 7, _ => exact op_eqFN ho hu hx
  | 8, _ => exact op_eqFN ho hu hx
  | 9, _ => exact op_eqFN ho hu hx
  | 10, _ => exact op_eqFN ho hu hx
  | 11, _ => exact op_eqFN ho hu hx
theorem rk_le (n : ByteArray) : rk n ≤ 11 := by
  unfold rk
  cases h : kwL.find? fun q => decide (n = q.1) with
  | none => simp
  | some q =>
    have hm := List.mem_of_find?_eq_some h
    simp only [Option.map_some, Option.getD_some]
    have : ∀ q ∈ kwL, q.2 ≤ 11 := by decide +kernel
    exact this q hm
theorem check_c (name : ByteArray) (v : JV) (σ : List AO) (hl : v.l.length ≤ 1000000000) (hm : v.m.length ≤ 1000000000) (hw : v.kind = 2 → rWhole v.n = decide (0 ≤ v.n.exp)) : ACalls Tryz.prog 103 [.str name, .agg (vcells v)] σ (Ret (cerv (rShape name v)) σ) := by
 refine ACalls_body Tryz.func103 rfl Tryz.ntmps103 (res1 Tryz.results103) (Nat.le_of_ble_eq_true rfl) (fun hcl hal => ?_)
 rw [vcells_eq v]
 have hkl := rk_le name
 refine zw2 ?_
 refine zu1 ?_
 refine zt rfl (zc rfl (rule_c name _)) ?_
 refine zv1 ?_
 refine AWp_seq ?_
 refine AWp_block ?_
 refine zu1 ?_
 refine zt rfl (op_eqRule hkl rfl Tryz.underlying100 rfl) ?_
 refine zv1 ?_
 refine AWp_cond rfl (fun h1 => ?_) (fun h1 => ?_)
 ·(try rw [h1]); replace h1 := zcl h1
  refine zw2 ?_
  refine zrt ?_
  refine ResQ_1 rfl hcl (by simp [AV.lt]) (Ret_of ?_)
  unfold rShape cerv; simp [h1]
 ·(try rw [h1]); replace h1 := zcl h1
  obtain ⟨k, fn, cp, hrv, hfn, hname, hb, hcall⟩ := ruleV_call (rk name) v ⟨by omega, hkl⟩ hl hm hw
  rw [hrv]
  refine zu2 ?_
  refine zt rfl (op_callF rfl rfl rfl hfn hname hb (vcells_eq v ▸ hcall _)) ?_
  refine zv2 ?_
  refine AWp_cond rfl (fun h2 => ?_) (fun h2 => ?_)
  ·(try rw [h2]); replace h2 := zcl h2
   refine zw2 ?_
   refine zrt ?_
   refine ResQ_1 rfl hcl (by simp [AV.lt]) (Ret_of ?_)
   unfold rShape cerv; simp [h1, h2]
  ·(try rw [h2]); replace h2 := zcl h2
   refine AWp_skip ?_
   refine zw1 ?_
   refine zrt ?_
   refine ResQ_1 rfl hcl (by simp [AV.lt]) (Ret_of ?_)
   unfold rShape cerv; simp [h1, h2]

theorem rk8 {n : ByteArray} (h1 : ¬ n = ⟨#[105, 116, 101, 109, 115]⟩) (h2 : ¬ n = ⟨#[97, 100, 100, 105, 116, 105, 111, 110, 97, 108, 80, 114, 111, 112, 101, 114, 116, 105, 101, 115]⟩) : decide (n = ⟨#[110, 111, 116]⟩) = decide (rk n = 8) := by
  by_cases h3 : n = ⟨#[110, 111, 116]⟩
  · subst h3; decide +kernel
  · rw [decide_eq_false h3]
    symm
    rw [decide_eq_false_iff_not]
    intro hk
    unfold rk at hk
    cases h : kwL.find? fun q => decide (n = q.1) with
    | none => rw [h] at hk; simp at hk
    | some q =>
      rw [h] at hk
      have hm := List.mem_of_find?_eq_some h
      have hq := List.find?_some h
      simp only [decide_eq_true_eq] at hq
      simp only [Option.map_some, Option.getD_some] at hk
      have : ∀ q ∈ kwL, q.2 = 8 → q.1 = ⟨#[105, 116, 101, 109, 115]⟩ ∨ q.1 = ⟨#[97, 100, 100, 105, 116, 105, 111, 110, 97, 108, 80, 114, 111, 112, 101, 114, 116, 105, 101, 115]⟩ ∨ q.1 = ⟨#[110, 111, 116]⟩ := by decide +kernel
      rcases this q hm hk with e | e | e
      · exact h1 (hq.trans e)
      · exact h2 (hq.trans e)
      · exact h3 (hq.trans e)
theorem single_c (name : ByteArray) (σ : List AO) : ACalls Tryz.prog 105 [.str name] σ (Ret (.bool (decide (rk name = 8))) σ) := by
 refine ACalls_body Tryz.func105 rfl Tryz.ntmps105 (res1 Tryz.results105) (Nat.le_of_ble_eq_true rfl) (fun hcl hal => ?_)
 refine zw1 ?_
 refine zu3 ?_
 refine zsp 5 rfl (fun h1 => ?_) fun h1 => ?_
 ·rw [h1]; replace h1 := zcl h1
  refine zv8 ?_
  refine zrt ?_
  refine ResQ_10 rfl hcl trivial (Ret_of ?_)
  subst h1; first | rfl | (congr 1; decide +kernel)
 ·rw [h1]; replace h1 := zcl h1
  refine zg4 ?_
  refine zsp 9 rfl (fun h2 => ?_) fun h2 => ?_
  ·rw [h2]; replace h2 := zcl h2
   refine zv4 ?_
   refine zrt ?_
   refine ResQ_10 rfl hcl trivial (Ret_of ?_)
   subst h2; first | rfl | (congr 1; decide +kernel)
  ·rw [h2]; replace h2 := zcl h2
   refine zv4 ?_
   refine zrt ?_
   refine ResQ_10 rfl hcl trivial (Ret_of ?_)
   congr 1; exact rk8 h1 h2
end Lg
set_option maxRecDepth 20000
set_option maxHeartbeats 4000000
namespace Lg
open Go Go.Proofs Go.RowKit
variable [GLay] 
theorem rwhole_c (n : JNum) (σ : List AO) : ACalls Tryz.prog 108 [.agg (ncells n)] σ (Ret (.bool (rWhole n)) σ) := by
 refine ACalls_body Tryz.func108 rfl Tryz.ntmps108 (res1 Tryz.results108) (Nat.le_of_ble_eq_true rfl) (fun hcl hal => ?_)
 refine zw2 ?_
 refine zu4 ?_
 refine zsp 6 rfl (fun h1 => ?_) fun h1 => ?_
 ·rw [h1]; replace h1 := zcl h1
  refine zv5 ?_
  refine zrt ?_
  refine ResQ_1 rfl hcl trivial (Ret_of ?_)
  congr 1; unfold rWhole; simp [*]
 ·rw [h1]; replace h1 := zcl h1
  refine zv5 ?_
  refine zrt ?_
  refine ResQ_1 rfl hcl trivial (Ret_of ?_)
  congr 1; unfold rWhole; simp [*]

theorem rtxt_c (v : JV) (σ : List AO) (hl : v.l.length ≤ 1000000000) : ACalls Tryz.prog 106 [.agg (vcells v)] σ (Ret (.bool (txB v)) σ) := by
 refine ACalls_body Tryz.func106 rfl Tryz.ntmps106 (res1 Tryz.results106) (Nat.le_of_ble_eq_true rfl) (fun hcl hal => ?_)
 rw [vcells_eq v]
 have hll := lcells_length v.l
 refine zw2 ?_
 refine AWp_seq ?_
 refine zw1 ?_
 refine AWp_block ?_
 -- loop 0 LIVE 1:box 2:assign 3:assign
 refine AWp_loop (ι := Nat) (fun i => i ≤ v.l.length ∧ txI v.l i) (fun i => ⟨[], [(1, .ptr (σ.length + 0) 0), (3, .int .i64 (i : Int))]⟩) (fun i => σ ++ [_]) (fun i => v.l.length - i) (0) (⟨Nat.zero_le _, fun a x h => absurd h (by omega)⟩) ?_ rfl (fun i hi => ?_)
 ·exact ⟨rfl, rfl, rfl, trivial⟩
 obtain ⟨hi1, hi2⟩ := hi
 refine AWp_seq ?_
 refine zw5 ?_
 refine AWp_cond rfl (fun h1 => ?_) (fun h1 => ?_)
 ·(try rw [h1]); replace h1 := zcl h1
  obtain ⟨x, hx⟩ : ∃ x, v.l[i]? = some x := ⟨_, List.getElem?_eq_getElem (show i < v.l.length by omega)⟩
  refine AWp_skip ?_
  refine AWp_seq ?_
  refine AWp_block ?_
  refine AWp_seq ?_
  refine zw1 ?_
  refine AWp_block ?_
  -- loop 1 LIVE 1:box 2:assign 3:assign 4:assign
  refine AWp_loop (ι := Nat) (fun k => k ≤ i ∧ ∀ (b : Nat) y, b < k → v.l[b]? = some y → ¬ x.s = y.s) (fun k => ⟨[], [(1, .ptr (σ.length + 0) 0), (3, .int .i64 (i : Int)), (4, .int .i64 (k : Int))]⟩) (fun k => σ ++ [_]) (fun k => i - k) (0) (⟨Nat.zero_le _, fun b y h => absurd h (by omega)⟩) ?_ rfl (fun k hk => ?_)
  ·exact ⟨rfl, rfl, rfl, rfl, trivial⟩
  obtain ⟨hk1, hk2⟩ := hk
  refine AWp_seq ?_
  refine zw3 ?_
  refine AWp_cond rfl (fun h2 => ?_) (fun h2 => ?_)
  ·(try rw [h2]); replace h2 := zcl h2
   obtain ⟨y, hy⟩ : ∃ y, v.l[k]? = some y := ⟨_, List.getElem?_eq_getElem (show k < v.l.length by omega)⟩
   refine AWp_skip ?_
   refine AWp_seq ?_
   refine AWp_block ?_
   refine AWp_seq ?_
   refine AWp_drawL #[0, 1, 0, 7, 15, 31, 0, 64, 0, 448, 960, 1984, 4095] Tryz.mixed (by decide +kernel) (by decide +kernel) ?_
   refine zd1 ?_
   refine zp1 ?_
   refine zd2 ?_
   rw [vcells_eq x]
   refine zd1 ?_
   refine zp1 ?_
   refine zd1 ?_
   refine zp1 ?_
   refine zd2 ?_
   rw [vcells_eq y]
   refine zd1 ?_
   refine zp1 ?_
   refine zd1 ?_
   refine RP.nil rfl ?_
   refine AWp_cond rfl (fun h3 => ?_) (fun h3 => ?_)
   ·(try rw [h3]); replace h3 := zcl h3
    refine zw1 ?_
    refine zrt ?_
    refine ResQ_1 rfl hcl trivial (Ret_of ?_)
    congr 1; unfold txB; rw [pb_f (fun h => (h i x (by omega) hx).2 k y (by omega) hy h3)]; rfl
   ·(try rw [h3]); replace h3 := zcl h3
    refine AWp_skip ?_
    refine AWp_regL ?_
    refine zv3 ?_
    refine ⟨k + 1, σ.length + 1, ⟨by omega, fun b z hb hz => ?_⟩, by omega, by simp, ⟨rfl, rfl, rfl, rfl, trivial⟩, closed_own 1 hcl ?_, ?_, take_own 1⟩
    ·by_cases e : b = k
     ·subst e; rw [hy] at hz; cases hz; exact h3
     ·exact hk2 b z (by omega) hz
    ·simp [ownLt, AO.cells, AV.ltL, AV.lt]
    ·simp [ltE, AV.lt]
  ·(try rw [h2]); replace h2 := zcl h2
   refine AWp_exit ?_
   refine zu4 ?_
   rw [vcells_eq x]
   refine zv3 ?_
   refine AWp_cond rfl (fun h4 => ?_) (fun h4 => ?_)
   ·(try rw [h4]); replace h4 := zcl h4
    refine zw1 ?_
    refine zrt ?_
    refine ResQ_1 rfl hcl trivial (Ret_of ?_)
    congr 1; unfold txB; rw [pb_f (fun h => h4 (h i x (by omega) hx).1)]; rfl
   ·(try rw [h4]); replace h4 := zcl h4
    refine AWp_skip ?_
    refine AWp_regL ?_
    refine zv3 ?_
    refine ⟨i + 1, σ.length + 1, ⟨by omega, txI_step hi2 hx h4 (fun b y hb hy => hk2 b y (by omega) hy)⟩, by omega, by simp, ⟨rfl, rfl, rfl, trivial⟩, closed_own 1 hcl ?_, ?_, take_own 1⟩
    ·simp [ownLt, AO.cells, AV.ltL, AV.lt]
    ·simp [ltE, AV.lt]
 ·(try rw [h1]); replace h1 := zcl h1
  refine AWp_exit ?_
  refine zw4 ?_
  refine zrt ?_
  refine ResQ_1 rfl hcl trivial (Ret_of ?_)
  congr 1; unfold txB; rw [pb_t (show txI v.l v.l.length by rw [← show i = v.l.length by omega]; exact hi2)]; rfl

theorem rtyp_c (v : JV) (σ : List AO) : ACalls Tryz.prog 107 [.agg (vcells v)] σ (Ret (.bool (tyB v)) σ) := by
 refine ACalls_body Tryz.func107 rfl Tryz.ntmps107 (res1 Tryz.results107) (Nat.le_of_ble_eq_true rfl) (fun hcl hal => ?_)
 rw [vcells_eq v]
 have h7 : (tyL.map fun x => [AV.str x]).length = 7 := rfl
 have h7l : tyL.length = 7 := rfl
 refine zw2 ?_
 refine zsr ?_
 refine zt rfl (op_buildSlice [[_], [_], [_], [_], [_], [_], [_]] rfl Tryz.underlying48 Tryz.sizeOf9 Tryz.zeroValue9 rfl (by decide) (by decide) rfl rfl rfl rfl rfl) ?_
 refine zv1 ?_
 refine AWp_seq ?_
 refine zw1 ?_
 refine AWp_block ?_
 -- loop 0 LIVE 1:box 2:assign 3:assign 4:assign
 refine AWp_loop (ι := Nat) (fun i => i ≤ 7 ∧ ∀ (j : Nat) t, j < i → tyL[j]? = some t → ¬ (v.kind = 3 ∧ v.s = t)) (fun i => ⟨[], [(1, .ptr (σ.length + 0) 0), (3, .sl true 1 (tyL.map fun x => [AV.str x])), (4, .int .i64 (i : Int))]⟩) (fun i => σ ++ [_]) (fun i => 7 - i) (0) (⟨Nat.zero_le _, fun j t h => absurd h (by omega)⟩) ?_ rfl (fun i hi => ?_)
 ·exact ⟨rfl, rfl, rfl, rfl, trivial⟩
 obtain ⟨hi1, hi2⟩ := hi
 refine AWp_seq ?_
 refine zw4 ?_
 refine AWp_cond rfl (fun h1 => ?_) (fun h1 => ?_)
 ·(try rw [h1]); replace h1 := zcl h1
  obtain ⟨t, ht⟩ : ∃ t, tyL[i]? = some t := ⟨_, List.getElem?_eq_getElem (show i < tyL.length by omega)⟩
  have htr : (tyL.map fun x => [AV.str x])[i]? = some [.str t] := by rw [List.getElem?_map, ht]; rfl
  refine AWp_skip ?_
  refine AWp_seq ?_
  refine AWp_block ?_
  refine AWp_seq ?_
  refine AWp_drawL #[0, 1, 3, 7, 15, 31, 15, 15, 207, 463, 1023, 2047] Tryz.mixed (by decide +kernel) (by decide +kernel) ?_
  refine zd1 ?_
  refine zp1 ?_
  refine zd2 ?_
  refine zspr 15 rfl (fun h2 => ?_) fun h2 => ?_
  ·rw [h2]; replace h2 := zcl h2
   refine zd1 ?_
   refine zp1 ?_
   refine zd2 ?_
   refine yAG rfl rfl rfl (fun _ => op_indexAddr rfl Tryz.underlying48 Tryz.sizeOf9 rfl rfl (by omega) (htr)) ?_
   refine zp1 ?_
   refine zd2 ?_
   refine RP.nil rfl ?_
   refine AWp_cond rfl (fun h3 => ?_) (fun h3 => ?_)
   ·(try rw [h3]); replace h3 := zcl h3
    refine zw1 ?_
    refine zrt ?_
    refine ResQ_1 rfl hcl trivial (Ret_of ?_)
    congr 1; symm; unfold tyB; rw [decide_eq_true h2, Bool.true_and, List.any_eq_true]; exact ⟨t, List.mem_of_getElem? ht, by simpa using h3⟩
   ·(try rw [h3]); replace h3 := zcl h3
    refine AWp_skip ?_
    refine AWp_regL ?_
    refine zv3 ?_
    refine ⟨i + 1, σ.length + 1, ⟨by omega, fun j u hj hu hc => ?_⟩, by omega, by simp, ⟨rfl, rfl, rfl, rfl, trivial⟩, closed_own 1 hcl ?_, ?_, take_own 1⟩
    ·by_cases e : j = i
     ·subst e; rw [ht] at hu; cases hu; first | exact h3 hc.2 | exact h2 hc.1
     ·exact hi2 j u (by omega) hu hc
    ·simp [ownLt, AO.cells, AV.ltL, AV.lt]
    ·simp [ltE, AV.lt, ltLL_str]
  ·rw [h2]; replace h2 := zcl h2
   refine zd8 ?_
   refine RP.nil rfl ?_
   refine AWp_condF rfl ?_
   refine AWp_skip ?_
   refine AWp_regL ?_
   refine zv3 ?_
   refine ⟨i + 1, σ.length + 1, ⟨by omega, fun j u hj hu hc => ?_⟩, by omega, by simp, ⟨rfl, rfl, rfl, rfl, trivial⟩, closed_own 1 hcl ?_, ?_, take_own 1⟩
   ·by_cases e : j = i
    ·subst e; rw [ht] at hu; cases hu; first | exact h3 hc.2 | exact h2 hc.1
    ·exact hi2 j u (by omega) hu hc
   ·simp [ownLt, AO.cells, AV.ltL, AV.lt]
   ·simp [ltE, AV.lt, ltLL_str]
 ·(try rw [h1]); replace h1 := zcl h1
  refine AWp_exit ?_
  refine zw1 ?_
  refine zrt ?_
  refine ResQ_1 rfl hcl trivial (Ret_of ?_)
  congr 1; symm; unfold tyB
  by_cases h : v.kind = 3
  ·rw [decide_eq_true h, Bool.true_and, List.any_eq_false]
   intro t ht
   obtain ⟨j, hj⟩ := List.getElem?_of_mem ht
   have := hi2 j t (by have := (List.getElem?_eq_some_iff.1 hj).1; omega) hj
   simp only [decide_eq_true_eq]; exact fun e => this ⟨h, e⟩
  ·rw [decide_eq_false h]; rfl

theorem rsch_c (v : JV) (σ : List AO) : ACalls Tryz.prog 38 [.agg (vcells v)] σ (Ret (.bool (schB v)) σ) := by
 refine ACalls_body Tryz.func38 rfl Tryz.ntmps38 (res1 Tryz.results38) (Nat.le_of_ble_eq_true rfl) (fun hcl hal => ?_)
 rw [vcells_eq v]
 refine zw2 ?_
 refine zu4 ?_
 refine zsp 6 rfl (fun h1 => ?_) fun h1 => ?_
 ·rw [h1]; replace h1 := zcl h1
  refine zv5 ?_
  refine zrt ?_
  refine ResQ_1 rfl hcl trivial (Ret_of ?_)
  congr 1; simp [schB, *]
 ·rw [h1]; replace h1 := zcl h1
  refine zv5 ?_
  refine zrt ?_
  refine ResQ_1 rfl hcl trivial (Ret_of ?_)
  congr 1; simp [schB, *]

theorem rall_c (m : List (ByteArray × JV)) (σ : List AO) (hm : m.length ≤ 1000000000) : ACalls Tryz.prog 109 [.sl false 9 (mcells m)] σ (Ret (.bool (m.all fun q => schB q.2)) σ) := by
 refine ACalls_body Tryz.func109 rfl Tryz.ntmps109 (res1 Tryz.results109) (Nat.le_of_ble_eq_true rfl) (fun hcl hal => ?_)
 have hml := mcells_length m
 refine zw1 ?_
 refine AWp_seq ?_
 refine zw1 ?_
 refine AWp_block ?_
 -- loop 0 LIVE 0:param 2:assign 3:assign
 refine AWp_loop (ι := Nat) (fun i => i ≤ m.length ∧ ∀ (j : Nat) q, j < i → m[j]? = some q → schB q.2 = true) (fun i => ⟨[], [(0, .sl false 9 (mcells m)), (3, .int .i64 (i : Int))]⟩) (fun i => σ) (fun i => m.length - i) (0) (⟨Nat.zero_le _, fun j q h => absurd h (by omega)⟩) ?_ rfl (fun i hi => ?_)
 ·exact ⟨rfl, rfl, rfl, trivial⟩
 obtain ⟨hi1, hi2⟩ := hi
 refine AWp_seq ?_
 refine zw4 ?_
 refine AWp_cond rfl (fun h1 => ?_) (fun h1 => ?_)
 ·(try rw [h1]); replace h1 := zcl h1
  obtain ⟨q, hq⟩ : ∃ q, m[i]? = some q := ⟨_, List.getElem?_eq_getElem (show i < m.length by omega)⟩
  refine AWp_skip ?_
  refine AWp_seq ?_
  refine AWp_block ?_
  refine zu3 ?_
  rw [vcells_eq q.2]
  refine zg2 ?_
  refine zt rfl (zc rfl (vcells_eq q.2 ▸ rsch_c q.2 _)) ?_
  refine zv1 ?_
  refine zw2 ?_
  refine AWp_cond rfl (fun h2 => ?_) (fun h2 => ?_)
  ·(try rw [h2]); replace h2 := zcl h2
   refine zw1 ?_
   refine zrt ?_
   refine ResQ_10 rfl hcl trivial (Ret_of ?_)
   congr 1; symm; rw [List.all_eq_false]; exact ⟨q, List.mem_of_getElem? hq, by simpa using h2⟩
  ·(try rw [h2]); replace h2 := zcl h2
   refine AWp_skip ?_
   refine AWp_regL ?_
   refine zv3 ?_
   refine ⟨i + 1, σ.length, ⟨by omega, fun j u hj hu => ?_⟩, by omega, Nat.le_refl _, ⟨rfl, rfl, rfl, trivial⟩, hcl, ?_, List.take_length⟩
   ·by_cases e : j = i
    ·subst e; rw [hq] at hu; cases hu; simpa using h2
    ·exact hi2 j u (by omega) hu
   ·simp [ltE, AV.lt]
 ·(try rw [h1]); replace h1 := zcl h1
  refine AWp_exit ?_
  refine zw1 ?_
  refine zrt ?_
  refine ResQ_10 rfl hcl trivial (Ret_of ?_)
  congr 1; symm; rw [List.all_eq_true]; intro q hq; obtain ⟨j, hj⟩ := List.getElem?_of_mem hq; exact hi2 j q (by have := (List.getElem?_eq_some_iff.1 hj).1; omega) hj

theorem rsingle_c (name : ByteArray) (σ : List AO) : ACalls Tryz.prog 68 [.str name] σ (Ret (.bool (decide (rk name = 8))) σ) := by
 refine ACalls_body Tryz.func68 rfl Tryz.ntmps68 (res1 Tryz.results68) (Nat.le_of_ble_eq_true rfl) (fun hcl hal => ?_)
 refine zw1 ?_
 refine zu3 ?_
 refine zsp 5 rfl (fun h1 => ?_) fun h1 => ?_
 ·rw [h1]; replace h1 := zcl h1
  refine zv8 ?_
  refine zrt ?_
  refine ResQ_10 rfl hcl trivial (Ret_of ?_)
  subst h1; first | rfl | (congr 1; decide +kernel)
 ·rw [h1]; replace h1 := zcl h1
  refine zg4 ?_
  refine zsp 9 rfl (fun h2 => ?_) fun h2 => ?_
  ·rw [h2]; replace h2 := zcl h2
   refine zv4 ?_
   refine zrt ?_
   refine ResQ_10 rfl hcl trivial (Ret_of ?_)
   subst h2; first | rfl | (congr 1; decide +kernel)
  ·rw [h2]; replace h2 := zcl h2
   refine zv4 ?_
   refine zrt ?_
   refine ResQ_10 rfl hcl trivial (Ret_of ?_)
   congr 1; exact rk8 h1 h2
end Lg
set_option maxRecDepth 20000
set_option maxHeartbeats 4000000
namespace Lg
open Go Go.Proofs Go.RowKit
variable [GLay] 
theorem ritoaP (m : Nat) : ∀ (n : Int) (σ : List AO), 0 ≤ n → n < m → n ≤ 9223372036854775807 → ACalls Tryz.prog 127 [.int .i64 n] σ (Ret (.str (itoaB n)) σ) := by
 induction m with
 | zero => intro n σ h1 h2 h3; omega
 | succ m ih =>
 intro n σ hn1 hn2 hn3
 refine ACalls_body Tryz.func127 rfl Tryz.ntmps127 (res1 Tryz.results127) (Nat.le_of_ble_eq_true rfl) (fun hcl hal => ?_)
 have h1s : ∀ x, (ByteArray.mk #[x]).size = 1 := fun x => rfl
 have hsz := itoa_size (n := n / 10) (by omega) (by omega)
 have hsz2 := itoa_size (n := -n) (by omega) (by omega)
 have hs3 := h1s (u8b (48 + n % 10))
 have hs4 := h1s 45
 refine zw1 ?_
 refine AWp_seq ?_
 refine zw2 ?_
 refine AWp_cond rfl (fun h1 => ?_) (fun h1 => ?_)
 ·(try rw [h1]); replace h1 := zcl h1
  exfalso; omega
 ·(try rw [h1]); replace h1 := zcl h1
  refine AWp_skip ?_
  refine AWp_seq ?_
  refine zw2 ?_
  refine AWp_cond rfl (fun h2 => ?_) (fun h2 => ?_)
  ·(try rw [h2]); replace h2 := zcl h2
   refine zu3 ?_
   refine zt rfl (op_buildSlice [[_]] rfl Tryz.underlying146 Tryz.sizeOf5 Tryz.zeroValue5 rfl (by decide) (by decide) rfl rfl rfl rfl rfl) ?_
   refine zt rfl (op_bytesStr (b := _) (m := 1) rfl Tryz.underlying146 Tryz.underlying5 Tryz.underlying9 (bs1 ⟨by omega, by omega⟩) rfl rfl) ?_
   refine zv1 ?_
   refine zrt ?_
   rw [itoa_small (by omega) h2]
   exact ResQ_10 rfl hcl trivial (Ret_of rfl)
  ·(try rw [h2]); replace h2 := zcl h2
   refine AWp_skip ?_
   refine AWp_seq ?_
   refine AWp_drawL #[0, 1, 3, 0, 8, 24, 56, 120, 248, 511, 1023] Tryz.mixed (by decide +kernel) (by decide +kernel) ?_
   refine zd1 ?_
   refine yA rfl rfl (fun _ => op_quo64 rfl rfl rfl (by omega) (by omega) (by omega)) ?_
   refine yP rfl rfl (zc rfl (ih (n / 10) _ (by omega) (by omega) (by omega))) (trivial) ?_
   refine zd1 ?_
   refine yA rfl rfl (fun _ => op_rem64 rfl rfl rfl (by omega) (by omega)) ?_
   refine zd2 ?_
   refine yA rfl rfl (fun _ => op_buildSlice [[_]] rfl Tryz.underlying146 Tryz.sizeOf5 Tryz.zeroValue5 rfl (by decide) (by decide) rfl rfl rfl rfl rfl) ?_
   refine yA rfl rfl (fun _ => op_bytesStr (b := _) (m := 1) rfl Tryz.underlying146 Tryz.underlying5 Tryz.underlying9 (bs1 ⟨by omega, by omega⟩) rfl rfl) ?_
   refine zd2 ?_
   refine RP.nil rfl ?_
   refine zrt ?_
   rw [itoa_big (by omega)]
   exact ResQ_10 rfl hcl trivial (Ret_of rfl)

theorem ritoa_c (n : Int) (σ : List AO) (hn3 : -9223372036854775807 ≤ n) (hn4 : n ≤ 9223372036854775807) : ACalls Tryz.prog 127 [.int .i64 n] σ (Ret (.str (itoaB n)) σ) := by
 refine ACalls_body Tryz.func127 rfl Tryz.ntmps127 (res1 Tryz.results127) (Nat.le_of_ble_eq_true rfl) (fun hcl hal => ?_)
 have h1s : ∀ x, (ByteArray.mk #[x]).size = 1 := fun x => rfl
 have hsz := itoa_size (n := n / 10) (by omega) (by omega)
 have hsz2 := itoa_size (n := -n) (by omega) (by omega)
 have hs3 := h1s (u8b (48 + n % 10))
 have hs4 := h1s 45
 refine zw1 ?_
 refine AWp_seq ?_
 refine zw2 ?_
 refine AWp_cond rfl (fun h1 => ?_) (fun h1 => ?_)
 ·(try rw [h1]); replace h1 := zcl h1
  refine zu1 ?_
  refine zt rfl (op_neg64 rfl rfl (by omega) (by omega)) ?_
  refine zt rfl (zc rfl (ritoaP ((-n).toNat + 1) (-n) _ (by omega) (by omega) (by omega))) ?_
  refine zv2 ?_
  refine zrt ?_
  rw [itoa_neg h1]
  exact ResQ_10 rfl hcl trivial (Ret_of rfl)
 ·(try rw [h1]); replace h1 := zcl h1
  refine AWp_skip ?_
  refine AWp_seq ?_
  refine zw2 ?_
  refine AWp_cond rfl (fun h2 => ?_) (fun h2 => ?_)
  ·(try rw [h2]); replace h2 := zcl h2
   refine zu3 ?_
   refine zt rfl (op_buildSlice [[_]] rfl Tryz.underlying146 Tryz.sizeOf5 Tryz.zeroValue5 rfl (by decide) (by decide) rfl rfl rfl rfl rfl) ?_
   refine zt rfl (op_bytesStr (b := _) (m := 1) rfl Tryz.underlying146 Tryz.underlying5 Tryz.underlying9 (bs1 ⟨by omega, by omega⟩) rfl rfl) ?_
   refine zv1 ?_
   refine zrt ?_
   rw [itoa_small (by omega) h2]
   exact ResQ_10 rfl hcl trivial (Ret_of rfl)
  ·(try rw [h2]); replace h2 := zcl h2
   refine AWp_skip ?_
   refine AWp_seq ?_
   refine AWp_drawL #[0, 1, 3, 0, 8, 24, 56, 120, 248, 511, 1023] Tryz.mixed (by decide +kernel) (by decide +kernel) ?_
   refine zd1 ?_
   refine yA rfl rfl (fun _ => op_quo64 rfl rfl rfl (by omega) (by omega) (by omega)) ?_
   refine yP rfl rfl (zc rfl (ritoaP ((n / 10).toNat + 1) (n / 10) _ (by omega) (by omega) (by omega))) (trivial) ?_
   refine zd1 ?_
   refine yA rfl rfl (fun _ => op_rem64 rfl rfl rfl (by omega) (by omega)) ?_
   refine zd2 ?_
   refine yA rfl rfl (fun _ => op_buildSlice [[_]] rfl Tryz.underlying146 Tryz.sizeOf5 Tryz.zeroValue5 rfl (by decide) (by decide) rfl rfl rfl rfl rfl) ?_
   refine yA rfl rfl (fun _ => op_bytesStr (b := _) (m := 1) rfl Tryz.underlying146 Tryz.underlying5 Tryz.underlying9 (bs1 ⟨by omega, by omega⟩) rfl rfl) ?_
   refine zd2 ?_
   refine RP.nil rfl ?_
   refine zrt ?_
   rw [itoa_big (by omega)]
   exact ResQ_10 rfl hcl trivial (Ret_of rfl)

end Lg
set_option maxRecDepth 20000
set_option maxHeartbeats 4000000
namespace Lg
open Go Go.Proofs Go.RowKit
variable [GLay] 
theorem rplain_c (n : Int) (σ : List AO) (h0 : 0 ≤ n) (h1 : n ≤ 1000000000) : ACalls Tryz.prog 149 [.int .i64 n] σ (Ret (.str (itoaB n)) σ) := by
 refine ACalls_body Tryz.func149 rfl Tryz.ntmps149 (res1 Tryz.results149) (Nat.le_of_ble_eq_true rfl) (fun hcl hal => ?_)
 refine zw1 ?_
 refine zu1 ?_
 refine zt rfl (zc rfl (ritoa_c n _ (by omega) (by omega))) ?_
 refine zv1 ?_
 refine zrt ?_
 exact ResQ_10 rfl hcl trivial (Ret_of rfl)

theorem rdig_c (n : Int) (σ : List AO) (h0 : 0 ≤ n) (h1 : n ≤ 1000000000) : ACalls Tryz.prog 110 [.int .i64 n] σ (Ret (.str (itoaB n)) σ) := by
 refine ACalls_body Tryz.func110 rfl Tryz.ntmps110 (res1 Tryz.results110) (Nat.le_of_ble_eq_true rfl) (fun hcl hal => ?_)
 refine zw1 ?_
 refine zu1 ?_
 refine zt rfl (zc rfl (rplain_c n _ h0 h1)) ?_
 refine zv1 ?_
 refine zrt ?_
 exact ResQ_10 rfl hcl trivial (Ret_of rfl)

theorem rk_mem {n : ByteArray} {c : Nat} (h : rk n = c) (hc : c ≠ 0) : (n, c) ∈ kwL := by
  unfold rk at h
  cases hf : kwL.find? fun q => decide (n = q.1) with
  | none => rw [hf] at h; exact absurd h.symm hc
  | some q =>
    rw [hf] at h
    have hm := List.mem_of_find?_eq_some hf
    have hq := List.find?_some hf
    simp only [decide_eq_true_eq] at hq
    simp only [Option.map_some, Option.getD_some] at h
    obtain ⟨a, b⟩ := q
    simp only at hq h
    subst hq; subst h
    exact hm
theorem kidsM_nil {n : ByteArray} (v : JV) (h8 : ¬ rk n = 8) (h1 : ¬ n = ⟨#[112, 114, 111, 112, 101, 114, 116, 105, 101, 115]⟩) (h2 : ¬ n = ⟨#[36, 100, 101, 102, 115]⟩) (h3 : ¬ n = ⟨#[97, 108, 108, 79, 102]⟩) (h4 : ¬ n = ⟨#[97, 110, 121, 79, 102]⟩) (h5 : ¬ n = ⟨#[111, 110, 101, 79, 102]⟩) : kidsM n v = [] := by
  have h9 : ¬ rk n = 9 := fun e => by
    have := rk_mem e (by decide)
    simp [kwL] at this
    rcases this with h | h
    · exact h1 h
    · exact h2 h
  have h10 : ¬ rk n = 10 := fun e => by
    have := rk_mem e (by decide)
    simp [kwL] at this
    rcases this with h | h | h
    · exact h3 h
    · exact h4 h
    · exact h5 h
  unfold kidsM; rw [if_neg h8, if_neg h9, if_neg h10]
theorem kidsM_8 {n : ByteArray} (v : JV) (h : rk n = 8) : kidsM n v = [(e0, v)] := by unfold kidsM; rw [if_pos h]
theorem kidsM_9 {n : ByteArray} (v : JV) (h : rk n = 9) : kidsM n v = v.m := by unfold kidsM; rw [if_neg (by omega), if_pos h]
theorem kidsM_10 {n : ByteArray} (v : JV) (h : rk n = 10) : kidsM n v = kZ v.l := by unfold kidsM; rw [if_neg (by omega), if_neg (by omega), if_pos h]; rfl
theorem one_cells (v : JV) : mcells [(e0, v)] = [[.str ⟨#[]⟩, .int .i64 v.kind, .bool v.b, .bool v.n.neg, .str v.n.digits, .int .i64 v.n.exp, .str v.s, .sl false 8 (lcells v.l), .sl false 9 (mcells v.m)]] := by
  simp [mcells, vcells_eq v]; rfl
theorem rkids_c (name : ByteArray) (v : JV) (σ : List AO) (hl : v.l.length ≤ 1000000000) : ACalls Tryz.prog 67 [.str name, .agg (vcells v)] σ (Ret (.sl false 9 (mcells (kidsM name v))) σ) := by
 refine ACalls_body Tryz.func67 rfl Tryz.ntmps67 (res1 Tryz.results67) (Nat.le_of_ble_eq_true rfl) (fun hcl hal => ?_)
 rw [vcells_eq v]
 have hll := lcells_length v.l
 refine zw2 ?_
 refine zu1 ?_
 refine zt rfl (zc rfl (rsingle_c name _)) ?_
 refine zv1 ?_
 refine AWp_seq ?_
 refine zw1 ?_
 refine AWp_cond rfl (fun h1 => ?_) (fun h1 => ?_)
 ·(try rw [h1]); replace h1 := zcl h1
  refine zu2 ?_
  refine zt rfl (op_buildSlice [[_, _, _, _, _, _, _, _, _]] rfl Tryz.underlying26 Tryz.sizeOf122 Tryz.zeroValue122 rfl (by decide) (by decide) rfl rfl rfl rfl rfl) ?_
  refine zv1 ?_
  refine AWp_slotLe 4 rfl (AVle.full 9 _) ?_ (by decide)
  refine zrt ?_
  rw [kidsM_8 v h1, one_cells]
  exact ResQ_1 rfl hcl (by simp [AV.lt, AV.ltLL, AV.ltL]) (Ret_of rfl)
 ·(try rw [h1]); replace h1 := zcl h1
  refine AWp_skip ?_
  refine AWp_seq ?_
  refine zu3 ?_
  refine zsp 16 rfl (fun h2 => ?_) fun h2 => ?_
  ·rw [h2]; replace h2 := zcl h2
   refine zv3 ?_
   refine AWp_condT rfl ?_
   refine zw3 ?_
   refine zrt ?_
   rw [kidsM_9 v (show rk name = 9 by rw [h2]; decide +kernel)]
   exact ResQ_1 rfl hcl (by simp [AV.lt]) (Ret_of rfl)
  ·rw [h2]; replace h2 := zcl h2
   refine zv3 ?_
   refine AWp_cond rfl (fun h3 => ?_) (fun h3 => ?_)
   ·(try rw [h3]); replace h3 := zcl h3
    refine zw3 ?_
    refine zrt ?_
    rw [kidsM_9 v (show rk name = 9 by rw [h3]; decide +kernel)]
    exact ResQ_1 rfl hcl (by simp [AV.lt]) (Ret_of rfl)
   ·(try rw [h3]); replace h3 := zcl h3
    refine AWp_skip ?_
    refine zw1 ?_
    refine AWp_seq ?_
    refine zu3 ?_
    refine zsp 24 rfl (fun h4 => ?_) fun h4 => ?_
    ·rw [h4]; replace h4 := zcl h4
     have hk10 : rk name = 10 := by rw [h4]; decide +kernel
     refine zv7 ?_
     refine AWp_condT rfl ?_
     refine AWp_seq ?_
     refine AWp_ghostTO 6 9 1 rfl rfl ?_ (by decide)
     refine AWp_regL ?_
     refine zv1 ?_
     refine AWp_block ?_
     -- loop 0 LIVE 3:box 4:assign 6:assign 7:assign
     refine AWp_loop (ι := Nat) (fun i => i ≤ v.l.length) (fun i => ⟨[], [(6, .arr (σ.length + 1) i 9 0 i), (3, .ptr (σ.length + 0) 0), (7, .int .i64 (i : Int))]⟩) (fun i => σ ++ [.box [.int .i64 v.kind, .bool v.b, .bool v.n.neg, .str v.n.digits, .int .i64 v.n.exp, .str v.s, .sl false 8 (lcells v.l), .sl false 9 (mcells v.m)], .arr 9 i (mcells (kZ (v.l.take i))).flatten]) (fun i => v.l.length - i) (0) (Nat.zero_le _) ?_ rfl (fun i hi => ?_)
     ·exact ⟨rfl, rfl, rfl, rfl, trivial⟩
     have hkl : (kZ (v.l.take i)).length = i := by rw [kZ_len, List.length_take]; omega
     have hfl := mflat_len (kZ (v.l.take i))
     refine AWp_seq ?_
     refine zw5 ?_
     refine AWp_cond rfl (fun h5 => ?_) (fun h5 => ?_)
     ·(try rw [h5]); replace h5 := zcl h5
      obtain ⟨x, hx⟩ : ∃ x, v.l[i]? = some x := ⟨_, List.getElem?_eq_getElem (show i < v.l.length by omega)⟩
      refine AWp_skip ?_
      refine AWp_seq ?_
      refine AWp_block ?_
      refine AWp_drawL #[0, 0, 2, 0, 8, 0, 56, 120, 254, 510, 1023, 2047] Tryz.mixed (by decide +kernel) (by decide +kernel) ?_
      refine zd2 ?_
      refine yP rfl rfl (zc rfl (rdig_c i _ (by omega) (by omega))) (trivial) ?_
      refine zd1 ?_
      refine zp1 ?_
      refine zd2 ?_
      rw [vcells_eq x]
      refine zp1 ?_
      refine zd1 ?_
      refine yA rfl rfl (fun _ => op_buildSlice [[_, _, _, _, _, _, _, _, _]] rfl Tryz.underlying26 Tryz.sizeOf122 Tryz.zeroValue122 rfl (by decide) (by decide) rfl rfl rfl rfl rfl) ?_
      refine yE rfl rfl (op_appendArrT rfl 1 (sz := 9) (m := 1) (len := i) (cs := _) rfl (.inr ⟨_, rfl⟩) Tryz.underlying26 Tryz.underlying26 Tryz.type122 rfl rfl rfl (by decide) rfl rfl (by rw [hfl, hkl]) rfl rfl rfl (by show (i + 1) * 128 ≤ _; omega) (by omega) rfl) (⟨.inl rfl, ⟨.inl rfl, ⟨.inl rfl, trivial⟩⟩⟩) (trivial) ?_
      refine zd1 ?_
      refine RP.nil rfl ?_
      refine AWp_regL ?_
      refine zv3 ?_
      refine ⟨i + 1, σ.length + 2, by omega, by omega, by simp, ⟨rfl, rfl, rfl, rfl, trivial⟩, closed_own 2 hcl ?_, ?_, ?_⟩
      ·simp [ownLt, AO.cells, AV.ltL, AV.lt, ofConst1, ltL_append, mflat_lt]
      ·simp [ltE, AV.lt]; (try omega)
      ·rw [kZ_take hx, mcells_snoc, mrow, vcells_eq x]; exact take_own 2
     ·(try rw [h5]); replace h5 := zcl h5
      have hie : i = v.l.length := by omega
      subst hie
      rw [List.take_length]
      refine AWp_exit ?_
      refine AWp_seq ?_
      first | refine AWp_freezeMO 6 1 _ _ (kZ v.l) (kZ_len _) rfl rfl ?_ (by decide) | refine AWp_slotLe 6 rfl (AVle.nils false 9) ?_ (by decide)
      refine AWp_regL ?_
      refine zv2 ?_
      refine zrt ?_
      rw [kidsM_10 v hk10]
      exact ResQ_1 rfl hcl (by simp [AV.lt]) (Ret_of rfl)
    ·rw [h4]; replace h4 := zcl h4
     refine zg4 ?_
     refine zsp 28 rfl (fun h6 => ?_) fun h6 => ?_
     ·rw [h6]; replace h6 := zcl h6
      have hk10 : rk name = 10 := by rw [h6]; decide +kernel
      refine zv3 ?_
      refine AWp_condT rfl ?_
      refine AWp_seq ?_
      refine AWp_ghostTO 6 9 1 rfl rfl ?_ (by decide)
      refine AWp_regL ?_
      refine zv1 ?_
      refine AWp_block ?_
      -- loop 1 LIVE 3:box 4:assign 6:assign 7:assign
      refine AWp_loop (ι := Nat) (fun i => i ≤ v.l.length) (fun i => ⟨[], [(6, .arr (σ.length + 1) i 9 0 i), (3, .ptr (σ.length + 0) 0), (7, .int .i64 (i : Int))]⟩) (fun i => σ ++ [.box [.int .i64 v.kind, .bool v.b, .bool v.n.neg, .str v.n.digits, .int .i64 v.n.exp, .str v.s, .sl false 8 (lcells v.l), .sl false 9 (mcells v.m)], .arr 9 i (mcells (kZ (v.l.take i))).flatten]) (fun i => v.l.length - i) (0) (Nat.zero_le _) ?_ rfl (fun i hi => ?_)
      ·exact ⟨rfl, rfl, rfl, rfl, trivial⟩
      have hkl : (kZ (v.l.take i)).length = i := by rw [kZ_len, List.length_take]; omega
      have hfl := mflat_len (kZ (v.l.take i))
      refine AWp_seq ?_
      refine zw5 ?_
      refine AWp_cond rfl (fun h7 => ?_) (fun h7 => ?_)
      ·(try rw [h7]); replace h7 := zcl h7
       obtain ⟨x, hx⟩ : ∃ x, v.l[i]? = some x := ⟨_, List.getElem?_eq_getElem (show i < v.l.length by omega)⟩
       refine AWp_skip ?_
       refine AWp_seq ?_
       refine AWp_block ?_
       refine AWp_drawL #[0, 0, 2, 0, 8, 0, 56, 120, 254, 510, 1023, 2047] Tryz.mixed (by decide +kernel) (by decide +kernel) ?_
       refine zd2 ?_
       refine yP rfl rfl (zc rfl (rdig_c i _ (by omega) (by omega))) (trivial) ?_
       refine zd1 ?_
       refine zp1 ?_
       refine zd2 ?_
       rw [vcells_eq x]
       refine zp1 ?_
       refine zd1 ?_
       refine yA rfl rfl (fun _ => op_buildSlice [[_, _, _, _, _, _, _, _, _]] rfl Tryz.underlying26 Tryz.sizeOf122 Tryz.zeroValue122 rfl (by decide) (by decide) rfl rfl rfl rfl rfl) ?_
       refine yE rfl rfl (op_appendArrT rfl 1 (sz := 9) (m := 1) (len := i) (cs := _) rfl (.inr ⟨_, rfl⟩) Tryz.underlying26 Tryz.underlying26 Tryz.type122 rfl rfl rfl (by decide) rfl rfl (by rw [hfl, hkl]) rfl rfl rfl (by show (i + 1) * 128 ≤ _; omega) (by omega) rfl) (⟨.inl rfl, ⟨.inl rfl, ⟨.inl rfl, trivial⟩⟩⟩) (trivial) ?_
       refine zd1 ?_
       refine RP.nil rfl ?_
       refine AWp_regL ?_
       refine zv3 ?_
       refine ⟨i + 1, σ.length + 2, by omega, by omega, by simp, ⟨rfl, rfl, rfl, rfl, trivial⟩, closed_own 2 hcl ?_, ?_, ?_⟩
       ·simp [ownLt, AO.cells, AV.ltL, AV.lt, ofConst1, ltL_append, mflat_lt]
       ·simp [ltE, AV.lt]; (try omega)
       ·rw [kZ_take hx, mcells_snoc, mrow, vcells_eq x]; exact take_own 2
      ·(try rw [h7]); replace h7 := zcl h7
       have hie : i = v.l.length := by omega
       subst hie
       rw [List.take_length]
       refine AWp_exit ?_
       refine AWp_seq ?_
       first | refine AWp_freezeMO 6 1 _ _ (kZ v.l) (kZ_len _) rfl rfl ?_ (by decide) | refine AWp_slotLe 6 rfl (AVle.nils false 9) ?_ (by decide)
       refine AWp_regL ?_
       refine zv2 ?_
       refine zrt ?_
       rw [kidsM_10 v hk10]
       exact ResQ_1 rfl hcl (by simp [AV.lt]) (Ret_of rfl)
     ·rw [h6]; replace h6 := zcl h6
      refine zv3 ?_
      refine AWp_cond rfl (fun h8 => ?_) (fun h8 => ?_)
      ·(try rw [h8]); replace h8 := zcl h8
       have hk10 : rk name = 10 := by rw [h8]; decide +kernel
       refine AWp_seq ?_
       refine AWp_ghostTO 6 9 1 rfl rfl ?_ (by decide)
       refine AWp_regL ?_
       refine zv1 ?_
       refine AWp_block ?_
       -- loop 2 LIVE 3:box 4:assign 6:assign 7:assign
       refine AWp_loop (ι := Nat) (fun i => i ≤ v.l.length) (fun i => ⟨[], [(6, .arr (σ.length + 1) i 9 0 i), (3, .ptr (σ.length + 0) 0), (7, .int .i64 (i : Int))]⟩) (fun i => σ ++ [.box [.int .i64 v.kind, .bool v.b, .bool v.n.neg, .str v.n.digits, .int .i64 v.n.exp, .str v.s, .sl false 8 (lcells v.l), .sl false 9 (mcells v.m)], .arr 9 i (mcells (kZ (v.l.take i))).flatten]) (fun i => v.l.length - i) (0) (Nat.zero_le _) ?_ rfl (fun i hi => ?_)
       ·exact ⟨rfl, rfl, rfl, rfl, trivial⟩
       have hkl : (kZ (v.l.take i)).length = i := by rw [kZ_len, List.length_take]; omega
       have hfl := mflat_len (kZ (v.l.take i))
       refine AWp_seq ?_
       refine zw5 ?_
       refine AWp_cond rfl (fun h9 => ?_) (fun h9 => ?_)
       ·(try rw [h9]); replace h9 := zcl h9
        obtain ⟨x, hx⟩ : ∃ x, v.l[i]? = some x := ⟨_, List.getElem?_eq_getElem (show i < v.l.length by omega)⟩
        refine AWp_skip ?_
        refine AWp_seq ?_
        refine AWp_block ?_
        refine AWp_drawL #[0, 0, 2, 0, 8, 0, 56, 120, 254, 510, 1023, 2047] Tryz.mixed (by decide +kernel) (by decide +kernel) ?_
        refine zd2 ?_
        refine yP rfl rfl (zc rfl (rdig_c i _ (by omega) (by omega))) (trivial) ?_
        refine zd1 ?_
        refine zp1 ?_
        refine zd2 ?_
        rw [vcells_eq x]
        refine zp1 ?_
        refine zd1 ?_
        refine yA rfl rfl (fun _ => op_buildSlice [[_, _, _, _, _, _, _, _, _]] rfl Tryz.underlying26 Tryz.sizeOf122 Tryz.zeroValue122 rfl (by decide) (by decide) rfl rfl rfl rfl rfl) ?_
        refine yE rfl rfl (op_appendArrT rfl 1 (sz := 9) (m := 1) (len := i) (cs := _) rfl (.inr ⟨_, rfl⟩) Tryz.underlying26 Tryz.underlying26 Tryz.type122 rfl rfl rfl (by decide) rfl rfl (by rw [hfl, hkl]) rfl rfl rfl (by show (i + 1) * 128 ≤ _; omega) (by omega) rfl) (⟨.inl rfl, ⟨.inl rfl, ⟨.inl rfl, trivial⟩⟩⟩) (trivial) ?_
        refine zd1 ?_
        refine RP.nil rfl ?_
        refine AWp_regL ?_
        refine zv3 ?_
        refine ⟨i + 1, σ.length + 2, by omega, by omega, by simp, ⟨rfl, rfl, rfl, rfl, trivial⟩, closed_own 2 hcl ?_, ?_, ?_⟩
        ·simp [ownLt, AO.cells, AV.ltL, AV.lt, ofConst1, ltL_append, mflat_lt]
        ·simp [ltE, AV.lt]; (try omega)
        ·rw [kZ_take hx, mcells_snoc, mrow, vcells_eq x]; exact take_own 2
       ·(try rw [h9]); replace h9 := zcl h9
        have hie : i = v.l.length := by omega
        subst hie
        rw [List.take_length]
        refine AWp_exit ?_
        refine AWp_seq ?_
        first | refine AWp_freezeMO 6 1 _ _ (kZ v.l) (kZ_len _) rfl rfl ?_ (by decide) | refine AWp_slotLe 6 rfl (AVle.nils false 9) ?_ (by decide)
        refine AWp_regL ?_
        refine zv2 ?_
        refine zrt ?_
        rw [kidsM_10 v hk10]
        exact ResQ_1 rfl hcl (by simp [AV.lt]) (Ret_of rfl)
      ·(try rw [h8]); replace h8 := zcl h8
       refine AWp_skip ?_
       refine AWp_seq ?_
       first | refine AWp_freezeMO 6 1 _ _ (kZ v.l) (kZ_len _) rfl rfl ?_ (by decide) | refine AWp_slotLe 6 rfl (AVle.nils false 9) ?_ (by decide)
       refine AWp_regL ?_
       refine zv2 ?_
       refine zrt ?_
       rw [kidsM_nil v h1 h2 h3 h4 h6 h8]
       exact ResQ_1 rfl hcl (by simp [AV.lt, AV.ltLL]) (Ret_of rfl)
end Lg
set_option maxRecDepth 20000
set_option maxHeartbeats 4000000
namespace Lg
open Go Go.Proofs Go.RowKit
variable [GLay] 
theorem rshape_c (name : ByteArray) (v : JV) (σ : List AO) (hl : v.l.length ≤ 1000000000) (hm : v.m.length ≤ 1000000000) : ACalls Tryz.prog 66 [.str name, .agg (vcells v)] σ (Ret (.int .i64 (rShape name v)) σ) := by
 refine ACalls_body Tryz.func66 rfl Tryz.ntmps66 (res1 Tryz.results66) (Nat.le_of_ble_eq_true rfl) (fun hcl hal => ?_)
 rw [vcells_eq v]
 have hll := lcells_length v.l
 refine zw2 ?_
 refine zw1 ?_
 refine AWp_join (ι := Unit) (fun b => rk name ≠ 0) (fun b => ⟨[], [(5, .bool (kOK (rk name) v))]⟩) (fun b => σ ++ [.box [.int .i64 v.kind, .bool v.b, .bool v.n.neg, .str v.n.digits, .int .i64 v.n.exp, .str v.s, .sl false 8 (lcells v.l), .sl false 9 (mcells v.m)]]) ?_ (fun b hj => ?_)
 ·skip
  refine zw1 ?_
  refine AWp_block ?_
  refine zw2 ?_
  refine AWp_cond rfl (fun h1 => ?_) (fun h1 => ?_)
  ·(try rw [h1]); replace h1 := zcl h1
   have hk : rk name = 1 := by rw [h1]; decide +kernel
   refine zu1 ?_
   refine zt rfl (zc rfl (vcells_eq v ▸ rtxt_c v _ hl)) ?_
   refine zv1 ?_
   refine zu2 ?_
   refine zsp 19 rfl (fun h2 => ?_) fun h2 => ?_
   ·rw [h2]; replace h2 := zcl h2
    refine zv6 ?_
    refine AWp_seq ?_
    refine zw1 ?_
    refine AWp_block ?_
    -- loop 0 LIVE 0:param 3:box 4:assign 5:assign 7:assign 13:move
    refine AWp_loop (ι := Nat) (fun i => i ≤ v.l.length) (fun i => ⟨[], [(3, .ptr (σ.length + 0) 0), (5, .bool (txB v && decide (0 < v.l.length) && (v.l.take i).all tyB)), (7, .int .i64 (i : Int))]⟩) (fun i => σ ++ [_]) (fun i => v.l.length - i) (0) (Nat.zero_le _) ?_ rfl (fun i hi => ?_)
    ·refine ⟨rfl, rfl, ?_, rfl, trivial⟩
     show AV.bool _ = AV.bool _; congr 1; simp [*]
    refine AWp_seq ?_
    refine zw5 ?_
    refine AWp_cond rfl (fun h3 => ?_) (fun h3 => ?_)
    ·(try rw [h3]); replace h3 := zcl h3
     obtain ⟨x, hx⟩ : ∃ x, v.l[i]? = some x := ⟨_, List.getElem?_eq_getElem (show i < v.l.length by omega)⟩
     refine AWp_skip ?_
     refine AWp_seq ?_
     refine AWp_block ?_
     refine zu4 ?_
     rw [vcells_eq x]
     refine zg1 ?_
     refine zt rfl (zc rfl (vcells_eq x ▸ rtyp_c x _)) ?_
     refine zv1 ?_
     refine AWp_regL ?_
     refine zg2 ?_
     refine zsp 39 rfl (fun h4 => ?_) fun h4 => ?_
     ·rw [h4]; replace h4 := zcl h4
      refine zv3 ?_
      refine AWp_regL ?_
      refine zv3 ?_
      refine ⟨i + 1, σ.length + 1, by omega, by omega, by simp, ⟨rfl, rfl, ?_, rfl, trivial⟩, closed_own 1 hcl ?_, ?_, take_own 1⟩
      ·show AV.bool _ = AV.bool _; congr 1; rw [List.take_add_one, hx]; simp only [Option.toList, List.all_append, List.all_cons, List.all_nil, Bool.and_true]; rw [← Bool.and_assoc]; (first | rw [h4] | rw [h7]); rfl
      ·simp [ownLt, AO.cells, AV.ltL, AV.lt]
      ·simp [ltE, AV.lt]
     ·rw [h4]; replace h4 := zcl h4
      refine zv3 ?_
      refine AWp_regL ?_
      refine zv3 ?_
      refine ⟨i + 1, σ.length + 1, by omega, by omega, by simp, ⟨rfl, rfl, ?_, rfl, trivial⟩, closed_own 1 hcl ?_, ?_, take_own 1⟩
      ·show AV.bool _ = AV.bool _; congr 1; rw [List.take_add_one, hx]; simp only [Option.toList, List.all_append, List.all_cons, List.all_nil, Bool.and_true]; rw [← Bool.and_assoc]; (first | rw [h4] | rw [h7]); rfl
      ·simp [ownLt, AO.cells, AV.ltL, AV.lt]
      ·simp [ltE, AV.lt]
    ·(try rw [h3]); replace h3 := zcl h3
     have hie : i = v.l.length := by omega
     subst hie
     rw [List.take_length]
     refine AWp_exit ?_
     refine zu1 ?_
     refine zt rfl (zc rfl (vcells_eq v ▸ rtyp_c v _)) ?_
     refine zv1 ?_
     refine AWp_regL ?_
     refine zg2 ?_
     refine zsp 45 rfl (fun h5 => ?_) fun h5 => ?_
     ·rw [h5]; replace h5 := zcl h5
      refine zv3 ?_
      show ∃ z : Unit, _ ∧ _ ∧ _
      refine ⟨(), (by rw [hk]; decide), ⟨rfl, ?_, trivial⟩, rfl⟩
      rw [hk]; show AV.bool _ = AV.bool _; congr 1 <;> first | (simp only [kOK]; (first | rw [h5] | rw [h8]); simp; done) | (simp [kOK, lcells_length, *]; done) | ((try simp only [lcells_length] at *); simp [kOK, *] <;> (intros; omega))
     ·rw [h5]; replace h5 := zcl h5
      refine zv3 ?_
      show ∃ z : Unit, _ ∧ _ ∧ _
      refine ⟨(), (by rw [hk]; decide), ⟨rfl, ?_, trivial⟩, rfl⟩
      rw [hk]; show AV.bool _ = AV.bool _; congr 1 <;> first | (simp only [kOK]; (first | rw [h5] | rw [h8]); simp; done) | (simp [kOK, lcells_length, *]; done) | ((try simp only [lcells_length] at *); simp [kOK, *] <;> (intros; omega))
   ·rw [h2]; replace h2 := zcl h2
    refine zv6 ?_
    refine AWp_seq ?_
    refine zw1 ?_
    refine AWp_block ?_
    -- loop 1 LIVE 0:param 3:box 4:assign 5:assign 7:assign 13:move
    refine AWp_loop (ι := Nat) (fun i => i ≤ v.l.length) (fun i => ⟨[], [(3, .ptr (σ.length + 0) 0), (5, .bool (txB v && decide (0 < v.l.length) && (v.l.take i).all tyB)), (7, .int .i64 (i : Int))]⟩) (fun i => σ ++ [_]) (fun i => v.l.length - i) (0) (Nat.zero_le _) ?_ rfl (fun i hi => ?_)
    ·refine ⟨rfl, rfl, ?_, rfl, trivial⟩
     show AV.bool _ = AV.bool _; congr 1; simp [*]
    refine AWp_seq ?_
    refine zw5 ?_
    refine AWp_cond rfl (fun h6 => ?_) (fun h6 => ?_)
    ·(try rw [h6]); replace h6 := zcl h6
     obtain ⟨x, hx⟩ : ∃ x, v.l[i]? = some x := ⟨_, List.getElem?_eq_getElem (show i < v.l.length by omega)⟩
     refine AWp_skip ?_
     refine AWp_seq ?_
     refine AWp_block ?_
     refine zu4 ?_
     rw [vcells_eq x]
     refine zg1 ?_
     refine zt rfl (zc rfl (vcells_eq x ▸ rtyp_c x _)) ?_
     refine zv1 ?_
     refine AWp_regL ?_
     refine zg2 ?_
     refine zsp 39 rfl (fun h7 => ?_) fun h7 => ?_
     ·rw [h7]; replace h7 := zcl h7
      refine zv3 ?_
      refine AWp_regL ?_
      refine zv3 ?_
      refine ⟨i + 1, σ.length + 1, by omega, by omega, by simp, ⟨rfl, rfl, ?_, rfl, trivial⟩, closed_own 1 hcl ?_, ?_, take_own 1⟩
      ·show AV.bool _ = AV.bool _; congr 1; rw [List.take_add_one, hx]; simp only [Option.toList, List.all_append, List.all_cons, List.all_nil, Bool.and_true]; rw [← Bool.and_assoc]; (first | rw [h4] | rw [h7]); rfl
      ·simp [ownLt, AO.cells, AV.ltL, AV.lt]
      ·simp [ltE, AV.lt]
     ·rw [h7]; replace h7 := zcl h7
      refine zv3 ?_
      refine AWp_regL ?_
      refine zv3 ?_
      refine ⟨i + 1, σ.length + 1, by omega, by omega, by simp, ⟨rfl, rfl, ?_, rfl, trivial⟩, closed_own 1 hcl ?_, ?_, take_own 1⟩
      ·show AV.bool _ = AV.bool _; congr 1; rw [List.take_add_one, hx]; simp only [Option.toList, List.all_append, List.all_cons, List.all_nil, Bool.and_true]; rw [← Bool.and_assoc]; (first | rw [h4] | rw [h7]); rfl
      ·simp [ownLt, AO.cells, AV.ltL, AV.lt]
      ·simp [ltE, AV.lt]
    ·(try rw [h6]); replace h6 := zcl h6
     have hie : i = v.l.length := by omega
     subst hie
     rw [List.take_length]
     refine AWp_exit ?_
     refine zu1 ?_
     refine zt rfl (zc rfl (vcells_eq v ▸ rtyp_c v _)) ?_
     refine zv1 ?_
     refine AWp_regL ?_
     refine zg2 ?_
     refine zsp 45 rfl (fun h8 => ?_) fun h8 => ?_
     ·rw [h8]; replace h8 := zcl h8
      refine zv3 ?_
      show ∃ z : Unit, _ ∧ _ ∧ _
      refine ⟨(), (by rw [hk]; decide), ⟨rfl, ?_, trivial⟩, rfl⟩
      rw [hk]; show AV.bool _ = AV.bool _; congr 1 <;> first | (simp only [kOK]; (first | rw [h5] | rw [h8]); simp; done) | (simp [kOK, lcells_length, *]; done) | ((try simp only [lcells_length] at *); simp [kOK, *] <;> (intros; omega))
     ·rw [h8]; replace h8 := zcl h8
      refine zv3 ?_
      show ∃ z : Unit, _ ∧ _ ∧ _
      refine ⟨(), (by rw [hk]; decide), ⟨rfl, ?_, trivial⟩, rfl⟩
      rw [hk]; show AV.bool _ = AV.bool _; congr 1 <;> first | (simp only [kOK]; (first | rw [h5] | rw [h8]); simp; done) | (simp [kOK, lcells_length, *]; done) | ((try simp only [lcells_length] at *); simp [kOK, *] <;> (intros; omega))
  ·(try rw [h1]); replace h1 := zcl h1
   refine zw2 ?_
   refine AWp_cond rfl (fun h9 => ?_) (fun h9 => ?_)
   ·(try rw [h9]); replace h9 := zcl h9
    have hk : rk name = 2 := by rw [h9]; decide +kernel
    refine AWp_regL ?_
    refine zg4 ?_
    refine zsp 53 rfl (fun h10 => ?_) fun h10 => ?_
    ·rw [h10]; replace h10 := zcl h10
     refine zv6 ?_
     show ∃ z : Unit, _ ∧ _ ∧ _
     refine ⟨(), (by rw [hk]; decide), ⟨rfl, ?_, trivial⟩, rfl⟩
     rw [hk]; show AV.bool _ = AV.bool _; congr 1 <;> first | (simp only [kOK]; (first | rw [h5] | rw [h8]); simp; done) | (simp [kOK, lcells_length, *]; done) | ((try simp only [lcells_length] at *); simp [kOK, *] <;> (intros; omega))
    ·rw [h10]; replace h10 := zcl h10
     refine zv6 ?_
     show ∃ z : Unit, _ ∧ _ ∧ _
     refine ⟨(), (by rw [hk]; decide), ⟨rfl, ?_, trivial⟩, rfl⟩
     rw [hk]; show AV.bool _ = AV.bool _; congr 1 <;> first | (simp only [kOK]; (first | rw [h5] | rw [h8]); simp; done) | (simp [kOK, lcells_length, *]; done) | ((try simp only [lcells_length] at *); simp [kOK, *] <;> (intros; omega))
   ·(try rw [h9]); replace h9 := zcl h9
    refine zw2 ?_
    refine AWp_cond rfl (fun h11 => ?_) (fun h11 => ?_)
    ·(try rw [h11]); replace h11 := zcl h11
     have hk : rk name = 3 := by rw [h11]; decide +kernel
     refine AWp_regL ?_
     refine zv1 ?_
     show ∃ z : Unit, _ ∧ _ ∧ _
     refine ⟨(), (by rw [hk]; decide), ⟨rfl, ?_, trivial⟩, rfl⟩
     rw [hk]; show AV.bool _ = AV.bool _; congr 1 <;> first | (simp only [kOK]; (first | rw [h5] | rw [h8]); simp; done) | (simp [kOK, lcells_length, *]; done) | ((try simp only [lcells_length] at *); simp [kOK, *] <;> (intros; omega))
    ·(try rw [h11]); replace h11 := zcl h11
     refine AWp_seq ?_
     refine zw2 ?_
     refine AWp_cond rfl (fun h12 => ?_) (fun h12 => ?_)
     ·(try rw [h12]); replace h12 := zcl h12
      have hk : rk name = 4 := by rw [h12]; decide +kernel
      refine AWp_skip ?_
      refine AWp_condT rfl ?_
      refine AWp_regL ?_
      refine zv4 ?_
      show ∃ z : Unit, _ ∧ _ ∧ _
      refine ⟨(), (by rw [hk]; decide), ⟨rfl, ?_, trivial⟩, rfl⟩
      rw [hk]; show AV.bool _ = AV.bool _; congr 1 <;> first | (simp only [kOK]; (first | rw [h5] | rw [h8]); simp; done) | (simp [kOK, lcells_length, *]; done) | ((try simp only [lcells_length] at *); simp [kOK, *] <;> (intros; omega))
     ·(try rw [h12]); replace h12 := zcl h12
      refine AWp_regL ?_
      refine zv2 ?_
      refine AWp_cond rfl (fun h13 => ?_) (fun h13 => ?_)
      ·(try rw [h13]); replace h13 := zcl h13
       have hk : rk name = 4 := by rw [h13]; decide +kernel
       refine AWp_regL ?_
       refine zv4 ?_
       show ∃ z : Unit, _ ∧ _ ∧ _
       refine ⟨(), (by rw [hk]; decide), ⟨rfl, ?_, trivial⟩, rfl⟩
       rw [hk]; show AV.bool _ = AV.bool _; congr 1 <;> first | (simp only [kOK]; (first | rw [h5] | rw [h8]); simp; done) | (simp [kOK, lcells_length, *]; done) | ((try simp only [lcells_length] at *); simp [kOK, *] <;> (intros; omega))
      ·(try rw [h13]); replace h13 := zcl h13
       refine AWp_seq ?_
       refine zw2 ?_
       refine AWp_cond rfl (fun h14 => ?_) (fun h14 => ?_)
       ·(try rw [h14]); replace h14 := zcl h14
        have hk : rk name = 5 := by rw [h14]; decide +kernel
        refine AWp_skip ?_
        refine AWp_condT rfl ?_
        refine zu2 ?_
        refine zt rfl (zc rfl (rwhole_c v.n _)) ?_
        refine zv1 ?_
        refine AWp_regL ?_
        refine zg4 ?_
        refine zsp 78 rfl (fun h15 => ?_) fun h15 => ?_
        ·rw [h15]; replace h15 := zcl h15
         refine zg3 ?_
         refine zsp 81 rfl (fun h16 => ?_) fun h16 => ?_
         ·rw [h16]; replace h16 := zcl h16
          refine zv6 ?_
          show ∃ z : Unit, _ ∧ _ ∧ _
          refine ⟨(), (by rw [hk]; decide), ⟨rfl, ?_, trivial⟩, rfl⟩
          rw [hk]; show AV.bool _ = AV.bool _; congr 1 <;> first | (simp only [kOK]; (first | rw [h5] | rw [h8]); simp; done) | (simp [kOK, lcells_length, *]; done) | ((try simp only [lcells_length] at *); simp [kOK, *] <;> (intros; omega))
         ·rw [h16]; replace h16 := zcl h16
          refine zv6 ?_
          show ∃ z : Unit, _ ∧ _ ∧ _
          refine ⟨(), (by rw [hk]; decide), ⟨rfl, ?_, trivial⟩, rfl⟩
          rw [hk]; show AV.bool _ = AV.bool _; congr 1 <;> first | (simp only [kOK]; (first | rw [h5] | rw [h8]); simp; done) | (simp [kOK, lcells_length, *]; done) | ((try simp only [lcells_length] at *); simp [kOK, *] <;> (intros; omega))
        ·rw [h15]; replace h15 := zcl h15
         refine zv9 ?_
         show ∃ z : Unit, _ ∧ _ ∧ _
         refine ⟨(), (by rw [hk]; decide), ⟨rfl, ?_, trivial⟩, rfl⟩
         rw [hk]; show AV.bool _ = AV.bool _; congr 1 <;> first | (simp only [kOK]; (first | rw [h5] | rw [h8]); simp; done) | (simp [kOK, lcells_length, *]; done) | ((try simp only [lcells_length] at *); simp [kOK, *] <;> (intros; omega))
       ·(try rw [h14]); replace h14 := zcl h14
        refine zw2 ?_
        refine AWp_cond rfl (fun h17 => ?_) (fun h17 => ?_)
        ·(try rw [h17]); replace h17 := zcl h17
         have hk : rk name = 5 := by rw [h17]; decide +kernel
         refine AWp_skip ?_
         refine AWp_condT rfl ?_
         refine zu2 ?_
         refine zt rfl (zc rfl (rwhole_c v.n _)) ?_
         refine zv1 ?_
         refine AWp_regL ?_
         refine zg4 ?_
         refine zsp 78 rfl (fun h18 => ?_) fun h18 => ?_
         ·rw [h18]; replace h18 := zcl h18
          refine zg3 ?_
          refine zsp 81 rfl (fun h19 => ?_) fun h19 => ?_
          ·rw [h19]; replace h19 := zcl h19
           refine zv6 ?_
           show ∃ z : Unit, _ ∧ _ ∧ _
           refine ⟨(), (by rw [hk]; decide), ⟨rfl, ?_, trivial⟩, rfl⟩
           rw [hk]; show AV.bool _ = AV.bool _; congr 1 <;> first | (simp only [kOK]; (first | rw [h5] | rw [h8]); simp; done) | (simp [kOK, lcells_length, *]; done) | ((try simp only [lcells_length] at *); simp [kOK, *] <;> (intros; omega))
          ·rw [h19]; replace h19 := zcl h19
           refine zv6 ?_
           show ∃ z : Unit, _ ∧ _ ∧ _
           refine ⟨(), (by rw [hk]; decide), ⟨rfl, ?_, trivial⟩, rfl⟩
           rw [hk]; show AV.bool _ = AV.bool _; congr 1 <;> first | (simp only [kOK]; (first | rw [h5] | rw [h8]); simp; done) | (simp [kOK, lcells_length, *]; done) | ((try simp only [lcells_length] at *); simp [kOK, *] <;> (intros; omega))
         ·rw [h18]; replace h18 := zcl h18
          refine zv9 ?_
          show ∃ z : Unit, _ ∧ _ ∧ _
          refine ⟨(), (by rw [hk]; decide), ⟨rfl, ?_, trivial⟩, rfl⟩
          rw [hk]; show AV.bool _ = AV.bool _; congr 1 <;> first | (simp only [kOK]; (first | rw [h5] | rw [h8]); simp; done) | (simp [kOK, lcells_length, *]; done) | ((try simp only [lcells_length] at *); simp [kOK, *] <;> (intros; omega))
        ·(try rw [h17]); replace h17 := zcl h17
         refine zw2 ?_
         refine AWp_cond rfl (fun h20 => ?_) (fun h20 => ?_)
         ·(try rw [h20]); replace h20 := zcl h20
          have hk : rk name = 5 := by rw [h20]; decide +kernel
          refine AWp_skip ?_
          refine AWp_condT rfl ?_
          refine zu2 ?_
          refine zt rfl (zc rfl (rwhole_c v.n _)) ?_
          refine zv1 ?_
          refine AWp_regL ?_
          refine zg4 ?_
          refine zsp 78 rfl (fun h21 => ?_) fun h21 => ?_
          ·rw [h21]; replace h21 := zcl h21
           refine zg3 ?_
           refine zsp 81 rfl (fun h22 => ?_) fun h22 => ?_
           ·rw [h22]; replace h22 := zcl h22
            refine zv6 ?_
            show ∃ z : Unit, _ ∧ _ ∧ _
            refine ⟨(), (by rw [hk]; decide), ⟨rfl, ?_, trivial⟩, rfl⟩
            rw [hk]; show AV.bool _ = AV.bool _; congr 1 <;> first | (simp only [kOK]; (first | rw [h5] | rw [h8]); simp; done) | (simp [kOK, lcells_length, *]; done) | ((try simp only [lcells_length] at *); simp [kOK, *] <;> (intros; omega))
           ·rw [h22]; replace h22 := zcl h22
            refine zv6 ?_
            show ∃ z : Unit, _ ∧ _ ∧ _
            refine ⟨(), (by rw [hk]; decide), ⟨rfl, ?_, trivial⟩, rfl⟩
            rw [hk]; show AV.bool _ = AV.bool _; congr 1 <;> first | (simp only [kOK]; (first | rw [h5] | rw [h8]); simp; done) | (simp [kOK, lcells_length, *]; done) | ((try simp only [lcells_length] at *); simp [kOK, *] <;> (intros; omega))
          ·rw [h21]; replace h21 := zcl h21
           refine zv9 ?_
           show ∃ z : Unit, _ ∧ _ ∧ _
           refine ⟨(), (by rw [hk]; decide), ⟨rfl, ?_, trivial⟩, rfl⟩
           rw [hk]; show AV.bool _ = AV.bool _; congr 1 <;> first | (simp only [kOK]; (first | rw [h5] | rw [h8]); simp; done) | (simp [kOK, lcells_length, *]; done) | ((try simp only [lcells_length] at *); simp [kOK, *] <;> (intros; omega))
         ·(try rw [h20]); replace h20 := zcl h20
          refine AWp_regL ?_
          refine zv2 ?_
          refine AWp_cond rfl (fun h23 => ?_) (fun h23 => ?_)
          ·(try rw [h23]); replace h23 := zcl h23
           have hk : rk name = 5 := by rw [h23]; decide +kernel
           refine zu2 ?_
           refine zt rfl (zc rfl (rwhole_c v.n _)) ?_
           refine zv1 ?_
           refine AWp_regL ?_
           refine zg4 ?_
           refine zsp 78 rfl (fun h24 => ?_) fun h24 => ?_
           ·rw [h24]; replace h24 := zcl h24
            refine zg3 ?_
            refine zsp 81 rfl (fun h25 => ?_) fun h25 => ?_
            ·rw [h25]; replace h25 := zcl h25
             refine zv6 ?_
             show ∃ z : Unit, _ ∧ _ ∧ _
             refine ⟨(), (by rw [hk]; decide), ⟨rfl, ?_, trivial⟩, rfl⟩
             rw [hk]; show AV.bool _ = AV.bool _; congr 1 <;> first | (simp only [kOK]; (first | rw [h5] | rw [h8]); simp; done) | (simp [kOK, lcells_length, *]; done) | ((try simp only [lcells_length] at *); simp [kOK, *] <;> (intros; omega))
            ·rw [h25]; replace h25 := zcl h25
             refine zv6 ?_
             show ∃ z : Unit, _ ∧ _ ∧ _
             refine ⟨(), (by rw [hk]; decide), ⟨rfl, ?_, trivial⟩, rfl⟩
             rw [hk]; show AV.bool _ = AV.bool _; congr 1 <;> first | (simp only [kOK]; (first | rw [h5] | rw [h8]); simp; done) | (simp [kOK, lcells_length, *]; done) | ((try simp only [lcells_length] at *); simp [kOK, *] <;> (intros; omega))
           ·rw [h24]; replace h24 := zcl h24
            refine zv9 ?_
            show ∃ z : Unit, _ ∧ _ ∧ _
            refine ⟨(), (by rw [hk]; decide), ⟨rfl, ?_, trivial⟩, rfl⟩
            rw [hk]; show AV.bool _ = AV.bool _; congr 1 <;> first | (simp only [kOK]; (first | rw [h5] | rw [h8]); simp; done) | (simp [kOK, lcells_length, *]; done) | ((try simp only [lcells_length] at *); simp [kOK, *] <;> (intros; omega))
          ·(try rw [h23]); replace h23 := zcl h23
           refine zw2 ?_
           refine AWp_cond rfl (fun h26 => ?_) (fun h26 => ?_)
           ·(try rw [h26]); replace h26 := zcl h26
            have hk : rk name = 6 := by rw [h26]; decide +kernel
            refine AWp_regL ?_
            refine zv4 ?_
            show ∃ z : Unit, _ ∧ _ ∧ _
            refine ⟨(), (by rw [hk]; decide), ⟨rfl, ?_, trivial⟩, rfl⟩
            rw [hk]; show AV.bool _ = AV.bool _; congr 1 <;> first | (simp only [kOK]; (first | rw [h5] | rw [h8]); simp; done) | (simp [kOK, lcells_length, *]; done) | ((try simp only [lcells_length] at *); simp [kOK, *] <;> (intros; omega))
           ·(try rw [h26]); replace h26 := zcl h26
            refine zw2 ?_
            refine AWp_cond rfl (fun h27 => ?_) (fun h27 => ?_)
            ·(try rw [h27]); replace h27 := zcl h27
             have hk : rk name = 7 := by rw [h27]; decide +kernel
             refine AWp_regL ?_
             refine zg1 ?_
             refine zt rfl (zc rfl (vcells_eq v ▸ rtxt_c v _ hl)) ?_
             refine zv1 ?_
             show ∃ z : Unit, _ ∧ _ ∧ _
             refine ⟨(), (by rw [hk]; decide), ⟨rfl, ?_, trivial⟩, rfl⟩
             rw [hk]; show AV.bool _ = AV.bool _; congr 1 <;> first | (simp only [kOK]; (first | rw [h5] | rw [h8]); simp; done) | (simp [kOK, lcells_length, *]; done) | ((try simp only [lcells_length] at *); simp [kOK, *] <;> (intros; omega))
            ·(try rw [h27]); replace h27 := zcl h27
             refine AWp_seq ?_
             refine zw2 ?_
             refine AWp_cond rfl (fun h28 => ?_) (fun h28 => ?_)
             ·(try rw [h28]); replace h28 := zcl h28
              have hk : rk name = 8 := by rw [h28]; decide +kernel
              refine AWp_skip ?_
              refine AWp_condT rfl ?_
              refine AWp_regL ?_
              refine zg1 ?_
              refine zt rfl (zc rfl (vcells_eq v ▸ rsch_c v _)) ?_
              refine zv1 ?_
              show ∃ z : Unit, _ ∧ _ ∧ _
              refine ⟨(), (by rw [hk]; decide), ⟨rfl, ?_, trivial⟩, rfl⟩
              rw [hk]; show AV.bool _ = AV.bool _; congr 1 <;> first | (simp only [kOK]; (first | rw [h5] | rw [h8]); simp; done) | (simp [kOK, lcells_length, *]; done) | ((try simp only [lcells_length] at *); simp [kOK, *] <;> (intros; omega))
             ·(try rw [h28]); replace h28 := zcl h28
              refine zw2 ?_
              refine AWp_cond rfl (fun h29 => ?_) (fun h29 => ?_)
              ·(try rw [h29]); replace h29 := zcl h29
               have hk : rk name = 8 := by rw [h29]; decide +kernel
               refine AWp_skip ?_
               refine AWp_condT rfl ?_
               refine AWp_regL ?_
               refine zg1 ?_
               refine zt rfl (zc rfl (vcells_eq v ▸ rsch_c v _)) ?_
               refine zv1 ?_
               show ∃ z : Unit, _ ∧ _ ∧ _
               refine ⟨(), (by rw [hk]; decide), ⟨rfl, ?_, trivial⟩, rfl⟩
               rw [hk]; show AV.bool _ = AV.bool _; congr 1 <;> first | (simp only [kOK]; (first | rw [h5] | rw [h8]); simp; done) | (simp [kOK, lcells_length, *]; done) | ((try simp only [lcells_length] at *); simp [kOK, *] <;> (intros; omega))
              ·(try rw [h29]); replace h29 := zcl h29
               refine AWp_regL ?_
               refine zv2 ?_
               refine AWp_cond rfl (fun h30 => ?_) (fun h30 => ?_)
               ·(try rw [h30]); replace h30 := zcl h30
                have hk : rk name = 8 := by rw [h30]; decide +kernel
                refine AWp_regL ?_
                refine zg1 ?_
                refine zt rfl (zc rfl (vcells_eq v ▸ rsch_c v _)) ?_
                refine zv1 ?_
                show ∃ z : Unit, _ ∧ _ ∧ _
                refine ⟨(), (by rw [hk]; decide), ⟨rfl, ?_, trivial⟩, rfl⟩
                rw [hk]; show AV.bool _ = AV.bool _; congr 1 <;> first | (simp only [kOK]; (first | rw [h5] | rw [h8]); simp; done) | (simp [kOK, lcells_length, *]; done) | ((try simp only [lcells_length] at *); simp [kOK, *] <;> (intros; omega))
               ·(try rw [h30]); replace h30 := zcl h30
                refine AWp_seq ?_
                refine zw2 ?_
                refine AWp_cond rfl (fun h31 => ?_) (fun h31 => ?_)
                ·(try rw [h31]); replace h31 := zcl h31
                 have hk : rk name = 9 := by rw [h31]; decide +kernel
                 refine AWp_skip ?_
                 refine AWp_condT rfl ?_
                 refine zu2 ?_
                 refine zt rfl (zc rfl (rall_c v.m _ hm)) ?_
                 refine zv1 ?_
                 refine AWp_regL ?_
                 refine zg4 ?_
                 refine zsp 111 rfl (fun h32 => ?_) fun h32 => ?_
                 ·rw [h32]; replace h32 := zcl h32
                  refine zv3 ?_
                  show ∃ z : Unit, _ ∧ _ ∧ _
                  refine ⟨(), (by rw [hk]; decide), ⟨rfl, ?_, trivial⟩, rfl⟩
                  rw [hk]; show AV.bool _ = AV.bool _; congr 1 <;> first | (simp only [kOK]; (first | rw [h5] | rw [h8]); simp; done) | (simp [kOK, lcells_length, *]; done) | ((try simp only [lcells_length] at *); simp [kOK, *] <;> (intros; omega))
                 ·rw [h32]; replace h32 := zcl h32
                  refine zv3 ?_
                  show ∃ z : Unit, _ ∧ _ ∧ _
                  refine ⟨(), (by rw [hk]; decide), ⟨rfl, ?_, trivial⟩, rfl⟩
                  rw [hk]; show AV.bool _ = AV.bool _; congr 1 <;> first | (simp only [kOK]; (first | rw [h5] | rw [h8]); simp; done) | (simp [kOK, lcells_length, *]; done) | ((try simp only [lcells_length] at *); simp [kOK, *] <;> (intros; omega))
                ·(try rw [h31]); replace h31 := zcl h31
                 refine AWp_regL ?_
                 refine zv2 ?_
                 refine AWp_cond rfl (fun h33 => ?_) (fun h33 => ?_)
                 ·(try rw [h33]); replace h33 := zcl h33
                  have hk : rk name = 9 := by rw [h33]; decide +kernel
                  refine zu2 ?_
                  refine zt rfl (zc rfl (rall_c v.m _ hm)) ?_
                  refine zv1 ?_
                  refine AWp_regL ?_
                  refine zg4 ?_
                  refine zsp 111 rfl (fun h34 => ?_) fun h34 => ?_
                  ·rw [h34]; replace h34 := zcl h34
                   refine zv3 ?_
                   show ∃ z : Unit, _ ∧ _ ∧ _
                   refine ⟨(), (by rw [hk]; decide), ⟨rfl, ?_, trivial⟩, rfl⟩
                   rw [hk]; show AV.bool _ = AV.bool _; congr 1 <;> first | (simp only [kOK]; (first | rw [h5] | rw [h8]); simp; done) | (simp [kOK, lcells_length, *]; done) | ((try simp only [lcells_length] at *); simp [kOK, *] <;> (intros; omega))
                  ·rw [h34]; replace h34 := zcl h34
                   refine zv3 ?_
                   show ∃ z : Unit, _ ∧ _ ∧ _
                   refine ⟨(), (by rw [hk]; decide), ⟨rfl, ?_, trivial⟩, rfl⟩
                   rw [hk]; show AV.bool _ = AV.bool _; congr 1 <;> first | (simp only [kOK]; (first | rw [h5] | rw [h8]); simp; done) | (simp [kOK, lcells_length, *]; done) | ((try simp only [lcells_length] at *); simp [kOK, *] <;> (intros; omega))
                 ·(try rw [h33]); replace h33 := zcl h33
                  refine AWp_seq ?_
                  refine zw2 ?_
                  refine AWp_cond rfl (fun h35 => ?_) (fun h35 => ?_)
                  ·(try rw [h35]); replace h35 := zcl h35
                   have hk : rk name = 10 := by rw [h35]; decide +kernel
                   refine AWp_skip ?_
                   refine AWp_condT rfl ?_
                   refine zu2 ?_
                   refine zt rfl (zc rfl (vcells_eq v ▸ rkids_c name v _ hl)) ?_
                   refine zt rfl (zc rfl (rall_c _ _ (by rw [kidsM_10 v hk, kZ_len]; exact hl))) ?_
                   rw [kidsM_10 v hk, kZ_all schB]
                   refine zv1 ?_
                   refine AWp_regL ?_
                   refine zg4 ?_
                   refine zsp 125 rfl (fun h36 => ?_) fun h36 => ?_
                   ·rw [h36]; replace h36 := zcl h36
                    refine zg6 ?_
                    refine zsp 131 rfl (fun h37 => ?_) fun h37 => ?_
                    ·rw [h37]; replace h37 := zcl h37
                     refine zv3 ?_
                     show ∃ z : Unit, _ ∧ _ ∧ _
                     refine ⟨(), (by rw [hk]; decide), ⟨rfl, ?_, trivial⟩, rfl⟩
                     rw [hk]; show AV.bool _ = AV.bool _; congr 1 <;> first | (simp only [kOK]; (first | rw [h5] | rw [h8]); simp; done) | (simp [kOK, lcells_length, *]; done) | ((try simp only [lcells_length] at *); simp [kOK, *] <;> (intros; omega))
                    ·rw [h37]; replace h37 := zcl h37
                     refine zv3 ?_
                     show ∃ z : Unit, _ ∧ _ ∧ _
                     refine ⟨(), (by rw [hk]; decide), ⟨rfl, ?_, trivial⟩, rfl⟩
                     rw [hk]; show AV.bool _ = AV.bool _; congr 1 <;> first | (simp only [kOK]; (first | rw [h5] | rw [h8]); simp; done) | (simp [kOK, lcells_length, *]; done) | ((try simp only [lcells_length] at *); simp [kOK, *] <;> (intros; omega))
                   ·rw [h36]; replace h36 := zcl h36
                    refine zv9 ?_
                    show ∃ z : Unit, _ ∧ _ ∧ _
                    refine ⟨(), (by rw [hk]; decide), ⟨rfl, ?_, trivial⟩, rfl⟩
                    rw [hk]; show AV.bool _ = AV.bool _; congr 1 <;> first | (simp only [kOK]; (first | rw [h5] | rw [h8]); simp; done) | (simp [kOK, lcells_length, *]; done) | ((try simp only [lcells_length] at *); simp [kOK, *] <;> (intros; omega))
                  ·(try rw [h35]); replace h35 := zcl h35
                   refine zw2 ?_
                   refine AWp_cond rfl (fun h38 => ?_) (fun h38 => ?_)
                   ·(try rw [h38]); replace h38 := zcl h38
                    have hk : rk name = 10 := by rw [h38]; decide +kernel
                    refine AWp_skip ?_
                    refine AWp_condT rfl ?_
                    refine zu2 ?_
                    refine zt rfl (zc rfl (vcells_eq v ▸ rkids_c name v _ hl)) ?_
                    refine zt rfl (zc rfl (rall_c _ _ (by rw [kidsM_10 v hk, kZ_len]; exact hl))) ?_
                    rw [kidsM_10 v hk, kZ_all schB]
                    refine zv1 ?_
                    refine AWp_regL ?_
                    refine zg4 ?_
                    refine zsp 125 rfl (fun h39 => ?_) fun h39 => ?_
                    ·rw [h39]; replace h39 := zcl h39
                     refine zg6 ?_
                     refine zsp 131 rfl (fun h40 => ?_) fun h40 => ?_
                     ·rw [h40]; replace h40 := zcl h40
                      refine zv3 ?_
                      show ∃ z : Unit, _ ∧ _ ∧ _
                      refine ⟨(), (by rw [hk]; decide), ⟨rfl, ?_, trivial⟩, rfl⟩
                      rw [hk]; show AV.bool _ = AV.bool _; congr 1 <;> first | (simp only [kOK]; (first | rw [h5] | rw [h8]); simp; done) | (simp [kOK, lcells_length, *]; done) | ((try simp only [lcells_length] at *); simp [kOK, *] <;> (intros; omega))
                     ·rw [h40]; replace h40 := zcl h40
                      refine zv3 ?_
                      show ∃ z : Unit, _ ∧ _ ∧ _
                      refine ⟨(), (by rw [hk]; decide), ⟨rfl, ?_, trivial⟩, rfl⟩
                      rw [hk]; show AV.bool _ = AV.bool _; congr 1 <;> first | (simp only [kOK]; (first | rw [h5] | rw [h8]); simp; done) | (simp [kOK, lcells_length, *]; done) | ((try simp only [lcells_length] at *); simp [kOK, *] <;> (intros; omega))
                    ·rw [h39]; replace h39 := zcl h39
                     refine zv9 ?_
                     show ∃ z : Unit, _ ∧ _ ∧ _
                     refine ⟨(), (by rw [hk]; decide), ⟨rfl, ?_, trivial⟩, rfl⟩
                     rw [hk]; show AV.bool _ = AV.bool _; congr 1 <;> first | (simp only [kOK]; (first | rw [h5] | rw [h8]); simp; done) | (simp [kOK, lcells_length, *]; done) | ((try simp only [lcells_length] at *); simp [kOK, *] <;> (intros; omega))
                   ·(try rw [h38]); replace h38 := zcl h38
                    refine AWp_regL ?_
                    refine zv2 ?_
                    refine AWp_cond rfl (fun h41 => ?_) (fun h41 => ?_)
                    ·(try rw [h41]); replace h41 := zcl h41
                     have hk : rk name = 10 := by rw [h41]; decide +kernel
                     refine zu2 ?_
                     refine zt rfl (zc rfl (vcells_eq v ▸ rkids_c name v _ hl)) ?_
                     refine zt rfl (zc rfl (rall_c _ _ (by rw [kidsM_10 v hk, kZ_len]; exact hl))) ?_
                     rw [kidsM_10 v hk, kZ_all schB]
                     refine zv1 ?_
                     refine AWp_regL ?_
                     refine zg4 ?_
                     refine zsp 125 rfl (fun h42 => ?_) fun h42 => ?_
                     ·rw [h42]; replace h42 := zcl h42
                      refine zg6 ?_
                      refine zsp 131 rfl (fun h43 => ?_) fun h43 => ?_
                      ·rw [h43]; replace h43 := zcl h43
                       refine zv3 ?_
                       show ∃ z : Unit, _ ∧ _ ∧ _
                       refine ⟨(), (by rw [hk]; decide), ⟨rfl, ?_, trivial⟩, rfl⟩
                       rw [hk]; show AV.bool _ = AV.bool _; congr 1 <;> first | (simp only [kOK]; (first | rw [h5] | rw [h8]); simp; done) | (simp [kOK, lcells_length, *]; done) | ((try simp only [lcells_length] at *); simp [kOK, *] <;> (intros; omega))
                      ·rw [h43]; replace h43 := zcl h43
                       refine zv3 ?_
                       show ∃ z : Unit, _ ∧ _ ∧ _
                       refine ⟨(), (by rw [hk]; decide), ⟨rfl, ?_, trivial⟩, rfl⟩
                       rw [hk]; show AV.bool _ = AV.bool _; congr 1 <;> first | (simp only [kOK]; (first | rw [h5] | rw [h8]); simp; done) | (simp [kOK, lcells_length, *]; done) | ((try simp only [lcells_length] at *); simp [kOK, *] <;> (intros; omega))
                     ·rw [h42]; replace h42 := zcl h42
                      refine zv9 ?_
                      show ∃ z : Unit, _ ∧ _ ∧ _
                      refine ⟨(), (by rw [hk]; decide), ⟨rfl, ?_, trivial⟩, rfl⟩
                      rw [hk]; show AV.bool _ = AV.bool _; congr 1 <;> first | (simp only [kOK]; (first | rw [h5] | rw [h8]); simp; done) | (simp [kOK, lcells_length, *]; done) | ((try simp only [lcells_length] at *); simp [kOK, *] <;> (intros; omega))
                    ·(try rw [h41]); replace h41 := zcl h41
                     refine zw2 ?_
                     refine AWp_cond rfl (fun h44 => ?_) (fun h44 => ?_)
                     ·(try rw [h44]); replace h44 := zcl h44
                      have hk : rk name = 11 := by rw [h44]; decide +kernel
                      refine AWp_regL ?_
                      refine zv4 ?_
                      show ∃ z : Unit, _ ∧ _ ∧ _
                      refine ⟨(), (by rw [hk]; decide), ⟨rfl, ?_, trivial⟩, rfl⟩
                      rw [hk]; show AV.bool _ = AV.bool _; congr 1 <;> first | (simp only [kOK]; (first | rw [h5] | rw [h8]); simp; done) | (simp [kOK, lcells_length, *]; done) | ((try simp only [lcells_length] at *); simp [kOK, *] <;> (intros; omega))
                     ·(try rw [h44]); replace h44 := zcl h44
                      refine zw1 ?_
                      refine zrt ?_
                      have hk : rk name = 0 := by simp [rk, kwL, *]
                      exact ResQ_1 rfl hcl trivial (Ret_of (by unfold rShape; rw [if_pos hk]))
 ·skip
  refine AWp_seq ?_
  refine zw2 ?_
  refine AWp_cond rfl (fun h45 => ?_) (fun h45 => ?_)
  ·(try rw [h45]); replace h45 := zcl h45
   refine zw1 ?_
   refine zrt ?_
   exact ResQ_1 rfl hcl trivial (Ret_of (by congr 1; simp [rShape, *]))
  ·(try rw [h45]); replace h45 := zcl h45
   refine AWp_skip ?_
   refine zw1 ?_
   refine zrt ?_
   exact ResQ_1 rfl hcl trivial (Ret_of (by congr 1; simp [rShape, *]))
end Lg
