import Derived.Test.YtehjmhgedbfddaaDoorLg18
set_option linter.unusedVariables false
set_option linter.unusedSimpArgs false
set_option linter.unusedSectionVars false
namespace Lg
open Go Go.RowKit
variable [GLay]

section ghost
variable {P : Program} {N : Nat} {e : Env} {σ : List AO} {Q : QA} {ops : Array Oper} {o : Oper}

/-! ### What is made is closed -/
def ownLt (n : Nat) : List AO → Prop
  | [] => True
  | o :: r => AV.ltL n o.cells ∧ ownLt n r
theorem ownLt.get {n : Nat} : ∀ {l : List AO}, ownLt n l → ∀ (p : Nat) (o : AO), l[p]? = some o → AV.ltL n o.cells
  | [], _, p, o, h => by simp at h
  | a :: r, ⟨h1, h2⟩, p, o, h => by
    cases p with
    | zero => simp at h; subst h; exact h1
    | succ p => simp at h; exact ownLt.get h2 p o h
theorem closed_own {l : List AO} (k : Nat) (h : closed σ.length σ) (hl : ownLt (σ.length + k) (l.take k)) : closed (σ.length + k) (σ ++ l) := fun p o hp ho => by
  rcases Nat.lt_or_ge p σ.length with h1 | h1
  · rw [List.getElem?_append_left h1] at ho
    exact AV.ltL_mono (by omega) _ (h p o h1 ho)
  · rw [List.getElem?_append_right h1] at ho
    exact hl.get (p - σ.length) o (by rw [List.getElem?_take, if_pos (by omega)]; exact ho)
theorem closed_old {l : List AO} (h : closed σ.length σ) : closed σ.length (σ ++ l) := closed_own 0 h (by simp [ownLt])
theorem closed_set {p n : Nat} {x : AO} (h : closed n σ) (hx : AV.ltL n x.cells) : closed n (σ.set p x) := fun q o hq ho => by
  rw [List.getElem?_set] at ho
  split at ho
  · split at ho
    · cases ho; exact hx
    · cases ho
  · exact h q o hq ho
theorem take_own {l : List AO} (k : Nat) : (σ ++ l).take (σ.length + k) = σ ++ l.take k := by
  rw [List.take_append, List.take_of_length_le (by omega)]; congr 2; omega
theorem take_old {l : List AO} : (σ ++ l).take σ.length = σ := by simp

/-- The end of a function that leaves the heap as it was. -/
theorem ResQ_ret {l : List AO} {t : Nat} {v : AV} {R : Out → List AO → Prop} (hl : lookO e.l t = some v) (hD : e.D = []) (hc : closed σ.length σ) (hv : v.lt σ.length) (hR : R (.ret v) σ) : ResQ σ.length [t] R .ret e (σ ++ l) :=
  ⟨hD, σ.length, Nat.le_refl _, closed_old hc, by simp only [resA, Env.look, lookO_eq hl]; exact hv, by simp only [resA, Env.look, lookO_eq hl, take_old]; exact hR⟩

/-! ### An object that is never written again -/
theorem put_self {a : Act} {t : Nat} (hlt : t < a.tmps.size) : a.put (some t) (a.eval (.tmp t)) = a := by
  cases a with
  | mk tmps defers =>
    have h2 : tmps.setIfInBounds t (tmps.getD t undef) = tmps := by
      apply Array.ext
      · simp
      · intro i h1 h2
        rw [Array.getElem_setIfInBounds]
        split
        · rename_i e; subst e; simp [Array.getD_eq_getD_getElem?, h2]
        · rfl
    simp only [Act.put, Act.eval, h2]
theorem freezeBox_V {s : CS} (g : Good s) {p off : Nat} {cs : List AV} {c : Value} (hσ : s.σ[p]? = some (.box cs)) (hv : V s (.ptr p off) c) :
    ∃ s', s'.σ = s.σ.set p .gone ∧ s'.w = s.w ∧ Good s' ∧ Ext s s' ∧ V s' (.pp (cs.drop off)) c := by
  have hlive : s.live p := by unfold CS.live; rw [hσ]; trivial
  obtain ⟨_, vs, T, hb, hp⟩ := g.rep hσ hlive
  have hp : PW s cs vs := hp
  obtain ⟨s', e1, e2, g', x', hok, hμ⟩ := g.freeze hσ hlive (o' := .gone) (.inl ⟨rfl, rfl⟩)
  refine ⟨s', e1, e2, g', x', ?_⟩
  rw [hv.inv_ptr]
  have hp' := (hp.drop off).mono g x'
  refine .pp _ _ off (vs.drop off) hok hp'.1 (fun i v hi => ?_) hp'.2
  rw [List.getElem?_drop] at hi
  rw [e2, cells_get hb]; exact hi
/-- A pointer to a box of the call's own becomes a pointer to what is never written again. -/
theorem AWp_freeze {c : Code} (t p off : Nat) {cs : List AV} (hl : lookO e.l t = some (.ptr p off)) (hσ : σ[p]? = some (.box cs)) (k : AWp P N c (e.put (some t) (.pp (cs.drop off))) (σ.set p .gone) Q) (ht : t < N) : AWp P N c e σ Q := fun s0 s a hs g x he => by
  subst hs
  have hv := he.tmps t
  rw [show e.look t = .ptr p off from lookO_eq hl] at hv
  obtain ⟨s', e1, e2, g', x', hv'⟩ := freezeBox_V g hσ hv
  have := k s0 s' a e1 g' (x.trans x') (by
    have h1 := (he.mono g x').put (some t) hv' (fun d hd => by cases hd; exact ht)
    have h2 : a.put (some t) (a.eval (.tmp t)) = a := put_self (by rw [he.size]; exact ht)
    rwa [h2] at h1)
  rwa [e2] at this

theorem freezeArr_V {s : CS} (g : Good s) {p gg sz off len : Nat} {cs : List AV} {c : Value} (hσ : s.σ[p]? = some (.arr sz gg cs)) (hv : V s (.arr p gg sz off len) c) (es : List (List AV)) (hes : es.flatten = (cs.drop (off * sz)).take (len * sz))
    (hel : ∀ r ∈ es, r.length = sz) (hlen : es.length = len) (hsz : sz ≠ 0) (hfit : (off + len) * sz ≤ cs.length) :
    ∃ s', s'.σ = s.σ.set p .dead ∧ s'.w = s.w ∧ Good s' ∧ Ext s s' ∧ V s' (.sl false sz es) c := by
  have hnil : ∀ {s' : CS} {ad : Option Addr}, len = 0 → V s' (.sl false sz es) (.slice ad 0 0) := fun {s' ad} h0 => by
    have he0 : es = [] := List.eq_nil_of_length_eq_zero (by omega)
    subst he0
    exact .sl0 false sz ad
  obtain ⟨_, ⟨ad, rfl, h0⟩ | ⟨cap, rfl, h4, h5⟩⟩ := hv.inv_arr hσ
  · by_cases hlive : s.live p
    · obtain ⟨s', e1, e2, g', x', hok, hμ⟩ := g.freeze hσ hlive (o' := .dead) (.inr ⟨rfl, rfl⟩)
      exact ⟨s', e1, e2, g', x', hnil h0⟩
    · obtain ⟨s', e1, e2, g', x'⟩ := g.kill hσ hlive
      exact ⟨s', e1, e2, g', x', hnil h0⟩
  · by_cases hlive : s.live p
    · obtain ⟨_, vs, T, hb, ht0, h7, h8, hpv⟩ := g.rep hσ hlive
      obtain ⟨s', e1, e2, g', x', hok, hμ⟩ := g.freeze hσ hlive (o' := .dead) (.inr ⟨rfl, rfl⟩)
      refine ⟨s', e1, e2, g', x', ?_⟩
      have hpw := ((hpv.drop (off * sz)).take (len * sz)).mono g x'
      rw [← hes] at hpw
      subst hlen
      refine .sl false sz es _ _ cap _ (.inr hok) hel hpw.1 (fun i v hi => ?_) hpw.2 h4 (by simp)
      rw [List.getElem?_take] at hi
      split at hi
      · rw [List.getElem?_drop, List.getElem?_take] at hi
        split at hi
        · rw [List.getElem?_drop] at hi
          rw [e2, cells_get hb, Nat.add_assoc]; exact hi
        · cases hi
      · cases hi
    · have ht : (s.μ p).tot = 0 := by
        unfold CS.live at hlive; rw [hσ] at hlive
        exact Decidable.not_not.1 hlive
      have hcap : cap = 0 := by
        have h6 : (off + cap) * sz = 0 := by omega
        rcases Nat.mul_eq_zero.1 h6 with h | h
        · omega
        · exact absurd h hsz
      have hl0 : len = 0 := by omega
      obtain ⟨s', e1, e2, g', x'⟩ := g.kill hσ hlive
      subst hl0; subst hcap
      exact ⟨s', e1, e2, g', x', hnil rfl⟩
/-- A slice of an array of the call's own becomes one that is never written again. -/
theorem AWp_freezeArr {c : Code} (t p gg sz off len : Nat) {cs : List AV} (hl : lookO e.l t = some (.arr p gg sz off len)) (hσ : σ[p]? = some (.arr sz gg cs)) (es : List (List AV)) (hes : es.flatten = (cs.drop (off * sz)).take (len * sz))
    (hel : ∀ r ∈ es, r.length = sz) (hlen : es.length = len) (hsz : sz ≠ 0) (hfit : (off + len) * sz ≤ cs.length) (k : AWp P N c (e.put (some t) (.sl false sz es)) (σ.set p .dead) Q) (ht : t < N) : AWp P N c e σ Q := fun s0 s a hs g x he => by
  subst hs
  have hv := he.tmps t
  rw [show e.look t = .arr p gg sz off len from lookO_eq hl] at hv
  obtain ⟨s', e1, e2, g', x', hv'⟩ := freezeArr_V g hσ hv es hes hel hlen hsz hfit
  have := k s0 s' a e1 g' (x.trans x') (by
    have h1 := (he.mono g x').put (some t) hv' (fun d hd => by cases hd; exact ht)
    rwa [put_self (by rw [he.size]; exact ht)] at h1)
  rwa [e2] at this
/-- The same for a slice in a cell of a box of the call's own. -/
theorem AWp_freezeIn {c : Code} (q i p gg sz off len : Nat) {bs cs : List AV} (hq : σ[q]? = some (.box bs)) (hi : bs[i]? = some (.arr p gg sz off len)) (hσ : σ[p]? = some (.arr sz gg cs)) (es : List (List AV)) (hes : es.flatten = (cs.drop (off * sz)).take (len * sz))
    (hel : ∀ r ∈ es, r.length = sz) (hlen : es.length = len) (hsz : sz ≠ 0) (hfit : (off + len) * sz ≤ cs.length) (k : AWp P N c e ((σ.set p .dead).set q (.box (bs.set i (.sl false sz es)))) Q) : AWp P N c e σ Q := fun s0 s a hs g x he => by
  subst hs
  have hqp : q ≠ p := fun e => by subst e; rw [hq] at hσ; cases hσ
  have hliveq : s.live q := by unfold CS.live; rw [hq]; trivial
  obtain ⟨_, vs, T, hb, hp⟩ := g.rep hq hliveq
  have hp : PW s bs vs := hp
  obtain ⟨v, hv1, hv2⟩ := hp.get hi
  obtain ⟨s1, e1, e2, g1, x1, hv'⟩ := freezeArr_V g hσ hv2 es hes hel hlen hsz hfit
  have hq1 : s1.σ[q]? = some (.box bs) := by rw [e1, List.getElem?_set, if_neg (fun e => hqp e.symm)]; exact hq
  have hμ1 : s1.μ q = s.μ q := by
    obtain ⟨o', h1, _, h3⟩ := x1.objs q _ hq
    exact h3 trivial
  have hlive1 : s1.live q := by unfold CS.live; rw [hq1]; trivial
  have hset : vs.set i v = vs := by
    obtain ⟨h1, h2⟩ := List.getElem?_eq_some_iff.1 hv1
    rw [← h2]; exact List.set_getElem_self h1
  have hnew : PW s1 (bs.set i (.sl false sz es)) vs := by
    have := (hp.mono g x1).set i hv'
    rwa [hset] at this
  obtain ⟨s2, f1, f2, g2, x2, _⟩ := g1.setObj hq1 hlive1 (o' := .box (bs.set i (.sl false sz es))) (.box _ _ (by simp)) trivial hnew
  have hw : s2.w = s.w := by
    rw [f2, e2, hμ1, setRow_self _ _ _ _ _ hb]
  have := k s0 s2 a (by rw [f1, e1]) g2 ((x.trans x1).trans x2) ((he.mono g x1).mono g1 x2)
  rwa [hw] at this
end ghost
end Lg
